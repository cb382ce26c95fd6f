import Derived.Test.YtcfgmkmllcfjjaaDoorZPImageFormx0
import Derived.Test.YtcfgmkmllcfjjaaDoorZPImageFormx4
namespace Go.Proofs.YtcfgmkmllcfjjaaDoor.PImageForm
open Go.RowKit Go.Proofs.YtcfgmkmllcfjjaaDoorW.PrintWords Go.Proofs.YtcfgmkmllcfjjaaDoorW.PrintLast Go.Proofs.YtcfgmkmllcfjjaaDoorW.PrintMore
attribute [local go_sem] max2_int min2_int max_two min_two max_three min_three max_four min_four
set_option linter.unusedVariables false
set_option linter.unusedSimpArgs false
attribute [local go_sem high] eqA66
mutual
def refrainlaw22_events.l0 : Nat → List (S71) → List (S71) → Int → Option (Bool)
  | 0, _, _, _ => none
  | k + 1, x0, x1, x5 => if x5 < (x0.length : Int) then (if 0 ≤ x5 then (if x5 < (x1.length : Int) then (if ((rd_T71 x0 x5).f0) = ((rd_T71 x1 x5).f0) then (if (((rd_T71 x0 x5).f2) != ((rd_T71 x1 x5).f2)) = true then (refrainlaw22_events.j1 k x0 x1 x5 true ((rd_T71 x0 x5).f0) ((rd_T71 x0 x5).f1.f0) ((rd_T71 x0 x5).f1.f1) ((rd_T71 x0 x5).f1.f2) ((rd_T71 x0 x5).f2) ((rd_T71 x1 x5).f0) ((rd_T71 x1 x5).f1.f0) ((rd_T71 x1 x5).f1.f1) ((rd_T71 x1 x5).f1.f2) ((rd_T71 x1 x5).f2)) else (if ((rd_T71 x0 x5).f1.f0).toList = ((rd_T71 x1 x5).f1.f0).toList then (if ((rd_T71 x0 x5).f1.f1) = ((rd_T71 x1 x5).f1.f1) then (refrainlaw22_events.j1 k x0 x1 x5 ((((rd_T71 x0 x5).f1.f2).length : Int) != (((rd_T71 x1 x5).f1.f2).length : Int)) ((rd_T71 x0 x5).f0) ((rd_T71 x0 x5).f1.f0) ((rd_T71 x0 x5).f1.f1) ((rd_T71 x0 x5).f1.f2) ((rd_T71 x0 x5).f2) ((rd_T71 x1 x5).f0) ((rd_T71 x1 x5).f1.f0) ((rd_T71 x1 x5).f1.f1) ((rd_T71 x1 x5).f1.f2) ((rd_T71 x1 x5).f2)) else (refrainlaw22_events.j1 k x0 x1 x5 true ((rd_T71 x0 x5).f0) ((rd_T71 x0 x5).f1.f0) ((rd_T71 x0 x5).f1.f1) ((rd_T71 x0 x5).f1.f2) ((rd_T71 x0 x5).f2) ((rd_T71 x1 x5).f0) ((rd_T71 x1 x5).f1.f0) ((rd_T71 x1 x5).f1.f1) ((rd_T71 x1 x5).f1.f2) ((rd_T71 x1 x5).f2))) else (refrainlaw22_events.j1 k x0 x1 x5 true ((rd_T71 x0 x5).f0) ((rd_T71 x0 x5).f1.f0) ((rd_T71 x0 x5).f1.f1) ((rd_T71 x0 x5).f1.f2) ((rd_T71 x0 x5).f2) ((rd_T71 x1 x5).f0) ((rd_T71 x1 x5).f1.f0) ((rd_T71 x1 x5).f1.f1) ((rd_T71 x1 x5).f1.f2) ((rd_T71 x1 x5).f2)))) else (refrainlaw22_events.j1 k x0 x1 x5 true ((rd_T71 x0 x5).f0) ((rd_T71 x0 x5).f1.f0) ((rd_T71 x0 x5).f1.f1) ((rd_T71 x0 x5).f1.f2) ((rd_T71 x0 x5).f2) ((rd_T71 x1 x5).f0) ((rd_T71 x1 x5).f1.f0) ((rd_T71 x1 x5).f1.f1) ((rd_T71 x1 x5).f1.f2) ((rd_T71 x1 x5).f2))) else (none)) else (none)) else (some true)
def refrainlaw22_events.j1 : Nat → List (S71) → List (S71) → Int → Bool → Int → ByteArray → Int → List (S66) → Bool → Int → ByteArray → Int → List (S66) → Bool → Option (Bool)
  | 0, _, _, _, _, _, _, _, _, _, _, _, _, _, _ => none
  | k + 1, x0, x1, x5, x68, x155000, x155001, x155002, x155003, x155004, x156000, x156001, x156002, x156003, x156004 => if x68 = true then (some false) else (refrainlaw22_events.l1 k x0 x1 x5 0 x155000 x155001 x155002 x155003 x155004 x156000 x156001 x156002 x156003 x156004)
def refrainlaw22_events.l1 : Nat → List (S71) → List (S71) → Int → Int → Int → ByteArray → Int → List (S66) → Bool → Int → ByteArray → Int → List (S66) → Bool → Option (Bool)
  | 0, _, _, _, _, _, _, _, _, _, _, _, _, _, _ => none
  | k + 1, x0, x1, x5, x8, x155000, x155001, x155002, x155003, x155004, x156000, x156001, x156002, x156003, x156004 => if x8 < (x155003.length : Int) then (if 0 ≤ x8 then (if x8 < (x156003.length : Int) then (if (!(((rd_T66 x155003 x8).f0) == ((rd_T66 x156003 x8).f0)) || (!(((rd_T66 x155003 x8).f1) == ((rd_T66 x156003 x8).f1)) || (!((((rd_T66 x155003 x8).f2).toList) == (((rd_T66 x156003 x8).f2).toList)) || (!(((rd_T66 x155003 x8).f3) == ((rd_T66 x156003 x8).f3)))))) = true then (some false) else (refrainlaw22_events.l1 k x0 x1 x5 (wrap64 (x8 + 1)) x155000 x155001 x155002 x155003 x155004 x156000 x156001 x156002 x156003 x156004)) else (none)) else (none)) else (refrainlaw22_events.l0 k x0 x1 (wrap64 (x5 + 1)))
end
def refrainlaw22_events.f (k : Nat) (l0 : List (S71)) (l1 : List (S71)) : Option (Bool) := if (l0.length : Int) = (l1.length : Int) then (refrainlaw22_events.l0 k l0 l1 0) else (some false)
theorem refrainlaw22_events.mono_l : ∀ k, (∀ y0 y1 y2, LeO (refrainlaw22_events.l0 k y0 y1 y2) (refrainlaw22_events.l0 (k + 1) y0 y1 y2)) ∧ (∀ y0 y1 y2 y3 y4 y5 y6 y7 y8 y9 y10 y11 y12 y13, LeO (refrainlaw22_events.j1 k y0 y1 y2 y3 y4 y5 y6 y7 y8 y9 y10 y11 y12 y13) (refrainlaw22_events.j1 (k + 1) y0 y1 y2 y3 y4 y5 y6 y7 y8 y9 y10 y11 y12 y13)) ∧ (∀ y0 y1 y2 y3 y4 y5 y6 y7 y8 y9 y10 y11 y12 y13, LeO (refrainlaw22_events.l1 k y0 y1 y2 y3 y4 y5 y6 y7 y8 y9 y10 y11 y12 y13) (refrainlaw22_events.l1 (k + 1) y0 y1 y2 y3 y4 y5 y6 y7 y8 y9 y10 y11 y12 y13))
  | 0 => ⟨fun _ _ _ r h => by simp [refrainlaw22_events.l0] at h, fun _ _ _ _ _ _ _ _ _ _ _ _ _ _ r h => by simp [refrainlaw22_events.j1] at h, fun _ _ _ _ _ _ _ _ _ _ _ _ _ _ r h => by simp [refrainlaw22_events.l1] at h⟩
  | k + 1 => by
    obtain ⟨ih0, ih1, ih2⟩ := refrainlaw22_events.mono_l k
    refine ⟨?_, ?_, ?_⟩
    · intro y0 y1 y2
      unfold refrainlaw22_events.l0
      repeat' first
      | (with_reducible exact ih0 _ _ _)
      | (with_reducible exact ih1 _ _ _ _ _ _ _ _ _ _ _ _ _ _)
      | (with_reducible exact ih2 _ _ _ _ _ _ _ _ _ _ _ _ _ _)
      | (with_reducible exact LeO.refl _)
      | (with_reducible exact LeO.none _)
      | (with_reducible refine LeO.ite ?_ ?_)
      | (with_reducible refine LeO.bind ?_ (fun _ => ?_))
      | exact ih0 _ _ _
      | exact ih1 _ _ _ _ _ _ _ _ _ _ _ _ _ _
      | exact ih2 _ _ _ _ _ _ _ _ _ _ _ _ _ _
      | exact LeO.none _
      | refine LeO.ite ?_ ?_
      | refine LeO.bind ?_ (fun _ => ?_)
    · intro y0 y1 y2 y3 y4 y5 y6 y7 y8 y9 y10 y11 y12 y13
      unfold refrainlaw22_events.j1
      repeat' first
      | (with_reducible exact ih0 _ _ _)
      | (with_reducible exact ih1 _ _ _ _ _ _ _ _ _ _ _ _ _ _)
      | (with_reducible exact ih2 _ _ _ _ _ _ _ _ _ _ _ _ _ _)
      | (with_reducible exact LeO.refl _)
      | (with_reducible exact LeO.none _)
      | (with_reducible refine LeO.ite ?_ ?_)
      | (with_reducible refine LeO.bind ?_ (fun _ => ?_))
      | exact ih0 _ _ _
      | exact ih1 _ _ _ _ _ _ _ _ _ _ _ _ _ _
      | exact ih2 _ _ _ _ _ _ _ _ _ _ _ _ _ _
      | exact LeO.none _
      | refine LeO.ite ?_ ?_
      | refine LeO.bind ?_ (fun _ => ?_)
    · intro y0 y1 y2 y3 y4 y5 y6 y7 y8 y9 y10 y11 y12 y13
      unfold refrainlaw22_events.l1
      repeat' first
      | (with_reducible exact ih0 _ _ _)
      | (with_reducible exact ih1 _ _ _ _ _ _ _ _ _ _ _ _ _ _)
      | (with_reducible exact ih2 _ _ _ _ _ _ _ _ _ _ _ _ _ _)
      | (with_reducible exact LeO.refl _)
      | (with_reducible exact LeO.none _)
      | (with_reducible refine LeO.ite ?_ ?_)
      | (with_reducible refine LeO.bind ?_ (fun _ => ?_))
      | exact ih0 _ _ _
      | exact ih1 _ _ _ _ _ _ _ _ _ _ _ _ _ _
      | exact ih2 _ _ _ _ _ _ _ _ _ _ _ _ _ _
      | exact LeO.none _
      | refine LeO.ite ?_ ?_
      | refine LeO.bind ?_ (fun _ => ?_)
theorem refrainlaw22_events.mono : ∀ a0 a1 k, LeO (refrainlaw22_events.f k a0 a1) (refrainlaw22_events.f (k + 1) a0 a1) := by
  intro a0 a1 k
  obtain ⟨ih0, ih1, ih2⟩ := refrainlaw22_events.mono_l k
  unfold refrainlaw22_events.f
  repeat' first
      | (with_reducible exact ih0 _ _ _)
      | (with_reducible exact ih1 _ _ _ _ _ _ _ _ _ _ _ _ _ _)
      | (with_reducible exact ih2 _ _ _ _ _ _ _ _ _ _ _ _ _ _)
      | (with_reducible exact LeO.refl _)
      | (with_reducible exact LeO.none _)
      | (with_reducible refine LeO.ite ?_ ?_)
      | (with_reducible refine LeO.bind ?_ (fun _ => ?_))
      | exact ih0 _ _ _
      | exact ih1 _ _ _ _ _ _ _ _ _ _ _ _ _ _
      | exact ih2 _ _ _ _ _ _ _ _ _ _ _ _ _ _
      | exact LeO.none _
      | refine LeO.ite ?_ ?_
      | refine LeO.bind ?_ (fun _ => ?_)
def refrainlaw22_events.T6 : Bool × List (List Nat × List Nat) := (true, [([], []), ([], []), ([0, 1], [0, 1]), ([2], [2]), ([], []), ([], []), ([4, 5], [4, 5]), ([6], [6]), ([], []), ([], []), ([8, 3, 0, 1, 2, 3, 8, 9], [3, 8]), ([9, 7, 10, 0, 1, 2, 3, 4, 5, 6, 7, 8, 9, 10], [7, 9])])
def refrainlaw22_events.B6 : List Nat := [0, 0, 3, 7, 0, 0, 48, 112, 0, 0, 783, 2047]
theorem refrainlaw22_events.tab6 : rtab .any (opsOf Tryd.f16 6) = refrainlaw22_events.T6 := by kernel_rfl
theorem refrainlaw22_events.bits6 : waitsOk refrainlaw22_events.T6.2 refrainlaw22_events.B6 = true := by kernel_rfl
def refrainlaw22_events.T12 : Bool × List (List Nat × List Nat) := (true, [([], []), ([0], [0]), ([1], [1]), ([], []), ([2, 3], [2, 3]), ([4], [4]), ([], []), ([6], [6]), ([7], [7]), ([], []), ([8, 9], [8, 9]), ([10], [10]), ([5, 11], [5, 11])])
def refrainlaw22_events.B12 : List Nat := [0, 1, 3, 0, 15, 31, 0, 64, 192, 0, 960, 1984, 4095]
theorem refrainlaw22_events.tab12 : rtab .any (opsOf Tryd.f16 12) = refrainlaw22_events.T12 := by kernel_rfl
theorem refrainlaw22_events.bits12 : waitsOk refrainlaw22_events.T12.2 refrainlaw22_events.B12 = true := by kernel_rfl
set_option maxHeartbeats 8000000 in
set_option maxRecDepth 100000 in
theorem refrainlaw22_events.calls (k : Nat) (A0 : Option Addr) (c0 : Nat) (l0 : List (S71)) (A1 : Option Addr) (c1 : Nat) (l1 : List (S71)) (r : Bool) (w : World) (hr0 : Kd.C k71 w A0 l0.length l0) (hc0 : l0.length ≤ c0) (hr1 : Kd.C k71 w A1 l1.length l1) (hc1 : l1.length ≤ c1) (h : refrainlaw22_events.f k l0 l1 = some r) :
    Calls Tryd.prog 16 #[.slice A0 l0.length c0, .slice A1 l1.length c1] w fun e w' => e = .returned (.bool r) ∧ Below w.heap.size w w' := by
  have hu71 := Tryd.underlying71
  have hu66 := Tryd.underlying66
  have HR0 := Aside0.mk hr0
  have HC0 := Aside0.mk hc0
  clear hr0 hc0
  have HR1 := Aside0.mk hr1
  have HC1 := Aside0.mk hc1
  clear hr1 hc1
  have HB := Aside0.mk (Below.refl w.heap.size w)
  have H : (if (l0.length : Int) = (l1.length : Int) then (refrainlaw22_events.l0 k l0 l1 0) else (some false)) = some r := h
  clear h
  by_cases c3 : (l0.length : Int) = (l1.length : Int)
  · rw [if_pos c3] at H
    have c3b0 : ((l0.length : Int) == (l1.length : Int)) = true := beq_iff_eq.mpr c3
    have c3b1 : ((l0.length : Int) != (l1.length : Int)) = false := bne_eq_false_iff_eq.mpr c3
    have c3b2 : (l0.length == l1.length) = true := by first | simpa using c3 | (simp at c3 ⊢; omega)
    clear c3
    have H' := Aside0.mk H
    clear H
    go_enter Tryd.func16, Tryd.ntmps16
    go_wp2
    go_loopg [5] k (fun kq v5 w' => ∃ (x5_1 : Int), v5 = .int .i64 x5_1 ∧ Aside0 (refrainlaw22_events.l0 kq l0 l1 x5_1 = some r) ∧ Aside0 (kq ≤ k) ∧ Aside0 (Below w.heap.size w w'))
    case atStart => exact ⟨(0), (by first | rfl | (simp; done) | (simp [*]; done)), H', ⟨Nat.le_refl _⟩, ⟨by repeat (first | (with_reducible first | exact HB.out | apply below_alloc | apply pw_below_drewN | apply below_drew1) | exact HB.out)⟩⟩
    case round =>
      clear H'
      try clear c1
      try clear p2
      try clear c3
      try clear c3b0
      try clear c3b1
      try clear c3b2
      obtain ⟨x5_1, rfl, HA, HK1, HB⟩ := hrel
      cases gk with
      | zero => exact absurd HA.out (by simp [refrainlaw22_events.l0])
      | succ k1 =>
        have H := HA.out
        clear HA
        simp only [refrainlaw22_events.l0] at H
        by_cases c4 : x5_1 < (l0.length : Int)
        · rw [if_pos c4] at H
          have c4b0 : decide (x5_1 < (l0.length : Int)) = true := decide_eq_true c4
          clear c4
          by_cases c5 : 0 ≤ x5_1
          · rw [if_pos c5] at H
            have c5b0 : decide (0 ≤ x5_1) = true := decide_eq_true c5
            clear c5
            by_cases c6 : x5_1 < (l1.length : Int)
            · rw [if_pos c6] at H
              have c6b0 : decide (x5_1 < (l1.length : Int)) = true := decide_eq_true c6
              clear c6
              have HC7 := Aside0.mk H
              clear H
              try go_wp2
              have n0_ := Aside0.mk (below_drew1 HB.out)
              clear HB
              have HB := n0_
              clear n0_
              have p152 : 0 ≤ (x5_1 : Int) := of_decide_eq_true (by first | (with_reducible assumption) | assumption)
              have q152 : x5_1 < (l0.length : Int) := of_decide_eq_true (by first | (with_reducible assumption) | assumption)
              obtain ⟨ad152, A152_3, c152_3, e152, hx152_0, hx152_1, hx152_2, hx152_3, hx152_4, hl152_3, hi152_3⟩ := at_T71 HR0.out x5_1 p152 q152
              have hw152_4 := hx152_4
              have hw152_3 := hx152_3
              have hw152_2 := hx152_2
              have hw152_1 := hx152_1
              have hw152_0 := hx152_0
              cases e152
              replace hx152_0 := (HB.out.cell (World.block_lt_of_cell? w _ hx152_0)).trans hx152_0
              replace hx152_1 := (HB.out.cell (World.block_lt_of_cell? w _ hx152_1)).trans hx152_1
              replace hx152_2 := (HB.out.cell (World.block_lt_of_cell? w _ hx152_2)).trans hx152_2
              replace hx152_3 := (HB.out.cell (World.block_lt_of_cell? w _ hx152_3)).trans hx152_3
              replace hx152_4 := (HB.out.cell (World.block_lt_of_cell? w _ hx152_4)).trans hx152_4
              have HR152_3 := Aside0.mk hi152_3
              have HC152_3 := Aside0.mk hl152_3
              clear hi152_3 hl152_3
              replace p152 := eq_true p152
              replace q152 := eq_true q152
              have p153 : 0 ≤ (x5_1 : Int) := of_decide_eq_true (by first | (with_reducible assumption) | assumption)
              have q153 : x5_1 < (l1.length : Int) := of_decide_eq_true (by first | (with_reducible assumption) | assumption)
              obtain ⟨ad153, A153_3, c153_3, e153, hx153_0, hx153_1, hx153_2, hx153_3, hx153_4, hl153_3, hi153_3⟩ := at_T71 HR1.out x5_1 p153 q153
              have hw153_4 := hx153_4
              have hw153_3 := hx153_3
              have hw153_2 := hx153_2
              have hw153_1 := hx153_1
              have hw153_0 := hx153_0
              cases e153
              replace hx153_0 := (HB.out.cell (World.block_lt_of_cell? w _ hx153_0)).trans hx153_0
              replace hx153_1 := (HB.out.cell (World.block_lt_of_cell? w _ hx153_1)).trans hx153_1
              replace hx153_2 := (HB.out.cell (World.block_lt_of_cell? w _ hx153_2)).trans hx153_2
              replace hx153_3 := (HB.out.cell (World.block_lt_of_cell? w _ hx153_3)).trans hx153_3
              replace hx153_4 := (HB.out.cell (World.block_lt_of_cell? w _ hx153_4)).trans hx153_4
              have HR153_3 := Aside0.mk hi153_3
              have HC153_3 := Aside0.mk hl153_3
              clear hi153_3 hl153_3
              replace p153 := eq_true p153
              replace q153 := eq_true q153
              refine start_ (n := 12) (S := fun w' => w'.cell? (ad152.add ((x5_1).toNat * 5)) = some (.int .i64 ((rd_T71 l0 x5_1).f0)) ∧ w'.cell? ⟨(ad152.add ((x5_1).toNat * 5)).block, (ad152.add ((x5_1).toNat * 5)).off + 1, none⟩ = some (.string ((rd_T71 l0 x5_1).f1.f0)) ∧ w'.cell? ⟨(ad152.add ((x5_1).toNat * 5)).block, (ad152.add ((x5_1).toNat * 5)).off + 2, none⟩ = some (.int .i64 ((rd_T71 l0 x5_1).f1.f1)) ∧ w'.cell? ⟨(ad152.add ((x5_1).toNat * 5)).block, (ad152.add ((x5_1).toNat * 5)).off + 3, none⟩ = some (.slice A152_3 ((rd_T71 l0 x5_1).f1.f2).length c152_3) ∧ w'.cell? ⟨(ad152.add ((x5_1).toNat * 5)).block, (ad152.add ((x5_1).toNat * 5)).off + 4, none⟩ = some (.bool ((rd_T71 l0 x5_1).f2)) ∧ w'.cell? (ad153.add ((x5_1).toNat * 5)) = some (.int .i64 ((rd_T71 l1 x5_1).f0)) ∧ w'.cell? ⟨(ad153.add ((x5_1).toNat * 5)).block, (ad153.add ((x5_1).toNat * 5)).off + 1, none⟩ = some (.string ((rd_T71 l1 x5_1).f1.f0)) ∧ w'.cell? ⟨(ad153.add ((x5_1).toNat * 5)).block, (ad153.add ((x5_1).toNat * 5)).off + 2, none⟩ = some (.int .i64 ((rd_T71 l1 x5_1).f1.f1)) ∧ w'.cell? ⟨(ad153.add ((x5_1).toNat * 5)).block, (ad153.add ((x5_1).toNat * 5)).off + 3, none⟩ = some (.slice A153_3 ((rd_T71 l1 x5_1).f1.f2).length c153_3) ∧ w'.cell? ⟨(ad153.add ((x5_1).toNat * 5)).block, (ad153.add ((x5_1).toNat * 5)).off + 4, none⟩ = some (.bool ((rd_T71 l1 x5_1).f2))) (ds := []) #[false, false, false, false, false, false, false, false, false, false, false, false] (by kernel_rfl) rfl rfl ⟨((HB.out.cell (World.block_lt_of_cell? w _ hw152_0)).trans hw152_0), ((HB.out.cell (World.block_lt_of_cell? w _ hw152_1)).trans hw152_1), ((HB.out.cell (World.block_lt_of_cell? w _ hw152_2)).trans hw152_2), ((HB.out.cell (World.block_lt_of_cell? w _ hw152_3)).trans hw152_3), ((HB.out.cell (World.block_lt_of_cell? w _ hw152_4)).trans hw152_4), ((HB.out.cell (World.block_lt_of_cell? w _ hw153_0)).trans hw153_0), ((HB.out.cell (World.block_lt_of_cell? w _ hw153_1)).trans hw153_1), ((HB.out.cell (World.block_lt_of_cell? w _ hw153_2)).trans hw153_2), ((HB.out.cell (World.block_lt_of_cell? w _ hw153_3)).trans hw153_3), ((HB.out.cell (World.block_lt_of_cell? w _ hw153_4)).trans hw153_4)⟩ (fun hHeld => ?_); refine with_tabW refrainlaw22_events.tab6 refrainlaw22_events.bits6 (fun HT_ HW_ => ?_)
              generalize wr.drew = w8 at HB HR152_3 HR153_3 hx152_0 hx152_1 hx152_2 hx152_3 hx152_4 hx153_0 hx153_1 hx153_2 hx153_3 hx153_4 hHeld ⊢
              refine pure_ (i := 0) (N := some 20) (v := ?_) (a' := ?_) #[true, false, false, false, false, false, false, false, false, false, false, false] rfl rfl (any_of HT_.out (by kernel_rfl)) (fun _ _ _ h => h) (Or.inl ⟨by rfl, ?_⟩) ?_ ?_
              rotate_left
              · intro w'
                go_simp
                with_reducible rfl
              rotate_left
              · simp only [Act.put, List.setIfInBounds_toArray, List.set_cons_zero, List.set_cons_succ, i64_w, i32_w]
                rfl
              refine pure_ (i := 1) (N := some 21) (v := ?_) (a' := ?_) #[true, true, false, false, false, false, false, false, false, false, false, false] rfl rfl (any_of HT_.out (by kernel_rfl)) (fun _ _ _ h => h) (Or.inl ⟨by rfl, ?_⟩) ?_ ?_
              rotate_left
              · intro w'
                go_simp
                with_reducible rfl
              rotate_left
              · simp only [Act.put, List.setIfInBounds_toArray, List.set_cons_zero, List.set_cons_succ, i64_w, i32_w]
                rfl
              refine pure_ (i := 2) (N := some 22) (v := ?_) (a' := ?_) #[true, true, true, false, false, false, false, false, false, false, false, false] rfl rfl (any_of HT_.out (by kernel_rfl)) (fun _ _ _ h => h) (Or.inl ⟨by rfl, ?_⟩) ?_ ?_
              rotate_left
              · intro w'
                go_simp
                with_reducible rfl
              rotate_left
              · simp only [Act.put, List.setIfInBounds_toArray, List.set_cons_zero, List.set_cons_succ, i64_w, i32_w]
                rfl
              refine pure_ (i := 4) (N := some 24) (v := ?_) (a' := ?_) #[true, true, true, false, true, false, false, false, false, false, false, false] rfl rfl (any_of HT_.out (by kernel_rfl)) (fun _ _ _ h => h) (Or.inl ⟨by rfl, ?_⟩) ?_ ?_
              rotate_left
              · intro w'
                go_simp
                with_reducible rfl
              rotate_left
              · simp only [Act.put, List.setIfInBounds_toArray, List.set_cons_zero, List.set_cons_succ, i64_w, i32_w]
                rfl
              refine pure_ (i := 5) (N := some 25) (v := ?_) (a' := ?_) #[true, true, true, false, true, true, false, false, false, false, false, false] rfl rfl (any_of HT_.out (by kernel_rfl)) (fun _ _ _ h => h) (Or.inl ⟨by rfl, ?_⟩) ?_ ?_
              rotate_left
              · intro w'
                go_simp
                with_reducible rfl
              rotate_left
              · simp only [Act.put, List.setIfInBounds_toArray, List.set_cons_zero, List.set_cons_succ, i64_w, i32_w]
                rfl
              refine pure_ (i := 6) (N := some 26) (v := ?_) (a' := ?_) #[true, true, true, false, true, true, true, false, false, false, false, false] rfl rfl (any_of HT_.out (by kernel_rfl)) (fun _ _ _ h => h) (Or.inl ⟨by rfl, ?_⟩) ?_ ?_
              rotate_left
              · intro w'
                go_simp
                with_reducible rfl
              rotate_left
              · simp only [Act.put, List.setIfInBounds_toArray, List.set_cons_zero, List.set_cons_succ, i64_w, i32_w]
                rfl
              refine take_ (i := 3) (N := some 23) (v := ?_) (a' := ?_) #[true, true, true, true, true, true, true, false, false, false, false, false] rfl rfl (take_ofW HT_.out HW_.out (by kernel_rfl)) (fun _ _ _ h => h) (Or.inl ⟨by rfl, ?_⟩) hHeld ?_ ?_
              rotate_left
              · rintro w' ⟨s0, s1, s2, s3, s4, s5, s6, s7, s8, s9⟩
                go_simp
                with_reducible rfl
              rotate_left
              · simp only [Act.put, List.setIfInBounds_toArray, List.set_cons_zero, List.set_cons_succ, i64_w, i32_w]
                rfl
              refine take_ (i := 7) (N := some 27) (v := ?_) (a' := ?_) #[true, true, true, true, true, true, true, true, false, false, false, false] rfl rfl (take_ofW HT_.out HW_.out (by kernel_rfl)) (fun _ _ _ h => h) (Or.inl ⟨by rfl, ?_⟩) hHeld ?_ ?_
              rotate_left
              · rintro w' ⟨s0, s1, s2, s3, s4, s5, s6, s7, s8, s9⟩
                go_simp
                with_reducible rfl
              rotate_left
              · simp only [Act.put, List.setIfInBounds_toArray, List.set_cons_zero, List.set_cons_succ, i64_w, i32_w]
                rfl
              refine join_ (σ := Nat × Nat) 2 #[true, true, true, true, true, true, true, true, true, true, false, false] (fun s_ => [(6, .pointer (some ⟨s_.1, 0, none⟩)), (7, .pointer (some ⟨s_.2, 0, none⟩))]) (fun s_ w' => (w'.cell? (ad152.add ((x5_1).toNat * 5)) = some (.int .i64 ((rd_T71 l0 x5_1).f0)) ∧ w'.cell? ⟨(ad152.add ((x5_1).toNat * 5)).block, (ad152.add ((x5_1).toNat * 5)).off + 1, none⟩ = some (.string ((rd_T71 l0 x5_1).f1.f0)) ∧ w'.cell? ⟨(ad152.add ((x5_1).toNat * 5)).block, (ad152.add ((x5_1).toNat * 5)).off + 2, none⟩ = some (.int .i64 ((rd_T71 l0 x5_1).f1.f1)) ∧ w'.cell? ⟨(ad152.add ((x5_1).toNat * 5)).block, (ad152.add ((x5_1).toNat * 5)).off + 3, none⟩ = some (.slice A152_3 ((rd_T71 l0 x5_1).f1.f2).length c152_3) ∧ w'.cell? ⟨(ad152.add ((x5_1).toNat * 5)).block, (ad152.add ((x5_1).toNat * 5)).off + 4, none⟩ = some (.bool ((rd_T71 l0 x5_1).f2)) ∧ w'.cell? (ad153.add ((x5_1).toNat * 5)) = some (.int .i64 ((rd_T71 l1 x5_1).f0)) ∧ w'.cell? ⟨(ad153.add ((x5_1).toNat * 5)).block, (ad153.add ((x5_1).toNat * 5)).off + 1, none⟩ = some (.string ((rd_T71 l1 x5_1).f1.f0)) ∧ w'.cell? ⟨(ad153.add ((x5_1).toNat * 5)).block, (ad153.add ((x5_1).toNat * 5)).off + 2, none⟩ = some (.int .i64 ((rd_T71 l1 x5_1).f1.f1)) ∧ w'.cell? ⟨(ad153.add ((x5_1).toNat * 5)).block, (ad153.add ((x5_1).toNat * 5)).off + 3, none⟩ = some (.slice A153_3 ((rd_T71 l1 x5_1).f1.f2).length c153_3) ∧ w'.cell? ⟨(ad153.add ((x5_1).toNat * 5)).block, (ad153.add ((x5_1).toNat * 5)).off + 4, none⟩ = some (.bool ((rd_T71 l1 x5_1).f2))) ∧ (w'.heap[s_.1]? = some (.cells #[.int .i64 0, .string (⟨#[]⟩ : ByteArray), .int .i64 0, .slice none 0 0, .bool false] 71 (0, 0))) ∧ (w'.heap[s_.2]? = some (.cells #[.int .i64 0, .string (⟨#[]⟩ : ByteArray), .int .i64 0, .slice none 0 0, .bool false] 71 (0, 0))) ∧ (w.heap.size ≤ s_.1) ∧ (w.heap.size ≤ s_.1) ∧ (s_.2 ≠ s_.1) ∧ (s_.1 ≠ s_.2) ∧ (w.heap.size ≤ s_.2) ∧ (w.heap.size ≤ s_.2) ∧ (Below w.heap.size w w')) ?_ ?_
              rotate_left
              · intro hCont
                refine two_ (i := 8) (j := 9) (Ni := some 6) (Nj := some 7) #[true, true, true, true, true, true, true, true, true, false, false, false] #[true, true, true, true, true, true, true, true, false, true, false, false] rfl rfl rfl rfl (two_of HT_.out (by kernel_rfl)) (by decide) (by decide) (fun K hK => ?_) (fun K hK => ?_)
                · skip
                  refine box_step ?hg (N := 6) ?hd (cs := #[.int .i64 0, .string (⟨#[]⟩ : ByteArray), .int .i64 0, .slice none 0 0, .bool false]) (t := 71) ?hr ?_; (case hd => rfl); (case hg => rfl); (case hr => first | (go_simp; done) | (go_simp; rfl))
                  intro gb154 hg w9 hbox hb
                  have n0_ := Aside0.mk (below_step (by repeat (first | (with_reducible first | exact HB.out | apply below_alloc | apply pw_below_drewN | apply below_drew1) | exact HB.out)) hb)
                  have n1_ := Aside0.mk (hbox)
                  have n2_ := Aside0.mk ((by rw [hg]; exact (below_size (by repeat (first | (with_reducible first | exact HB.out | apply below_alloc | apply pw_below_drewN | apply below_drew1) | exact HB.out))) : w.heap.size ≤ gb154))
                  have n3_ := Aside0.mk ((by rw [hg]; exact (below_size (by repeat (first | (with_reducible first | exact HB.out | apply below_alloc | apply pw_below_drewN | apply below_drew1) | exact HB.out))) : w.heap.size ≤ gb154))
                  clear HB
                  have HB := n0_
                  have BK154 := n1_
                  have GW154 := n2_
                  have GE154 := n3_
                  clear n0_ n1_ n2_ n3_
                  clear hb hbox hg
                  refine hK.out _ _ ⟨((HB.out.cell (World.block_lt_of_cell? w _ hw152_0)).trans hw152_0), ((HB.out.cell (World.block_lt_of_cell? w _ hw152_1)).trans hw152_1), ((HB.out.cell (World.block_lt_of_cell? w _ hw152_2)).trans hw152_2), ((HB.out.cell (World.block_lt_of_cell? w _ hw152_3)).trans hw152_3), ((HB.out.cell (World.block_lt_of_cell? w _ hw152_4)).trans hw152_4), ((HB.out.cell (World.block_lt_of_cell? w _ hw153_0)).trans hw153_0), ((HB.out.cell (World.block_lt_of_cell? w _ hw153_1)).trans hw153_1), ((HB.out.cell (World.block_lt_of_cell? w _ hw153_2)).trans hw153_2), ((HB.out.cell (World.block_lt_of_cell? w _ hw153_3)).trans hw153_3), ((HB.out.cell (World.block_lt_of_cell? w _ hw153_4)).trans hw153_4)⟩ (fun hHeld => ?_)
                  clear hK K
                  refine norm_ (a' := ?_) ?_ ?_
                  rotate_left
                  · show Act.put _ (some 6) _ = _
                    simp only [Act.put, List.setIfInBounds_toArray, List.set_cons_zero, List.set_cons_succ, i64_w, i32_w]
                    rfl
                  refine one_ (i := 9) (N := some 7) #[true, true, true, true, true, true, true, true, true, true, false, false] rfl rfl (one_of HT_.out (by kernel_rfl)) (by decide) (fun K hK => ?_)
                  refine box_step ?hg (N := 7) ?hd (cs := #[.int .i64 0, .string (⟨#[]⟩ : ByteArray), .int .i64 0, .slice none 0 0, .bool false]) (t := 71) ?hr ?_; (case hd => rfl); (case hg => rfl); (case hr => first | (go_simp; done) | (go_simp; rfl))
                  intro gb155 hg w10 hbox hb
                  have n0_ := Aside0.mk (blk_below (g := gb154) (o := .cells #[.int .i64 0, .string (⟨#[]⟩ : ByteArray), .int .i64 0, .slice none 0 0, .bool false] 71 (0, 0)) (by (with_reducible repeat (first | refine blk_drewN ?_ _ | refine blk_drew ?_ | refine blk_alloc ?_ _)); exact BK154.out) hb)
                  have n1_ := Aside0.mk (below_step (by repeat (first | (with_reducible first | exact HB.out | apply below_alloc | apply pw_below_drewN | apply below_drew1 | refine below_set ?_ GE154.out) | exact HB.out)) hb)
                  have n2_ := Aside0.mk (hbox)
                  have n3_ := Aside0.mk ((by rw [hg]; exact (below_size (by repeat (first | (with_reducible first | exact HB.out | apply below_alloc | apply pw_below_drewN | apply below_drew1 | refine below_set ?_ GE154.out) | exact HB.out))) : w.heap.size ≤ gb155))
                  have n4_ := Aside0.mk ((by rw [hg]; exact (below_size (by repeat (first | (with_reducible first | exact HB.out | apply below_alloc | apply pw_below_drewN | apply below_drew1 | refine below_set ?_ GE154.out) | exact HB.out))) : w.heap.size ≤ gb155))
                  have n5_ := Aside0.mk ((by rw [hg]; exact Nat.ne_of_lt (blk_lt (g := gb154) (o := .cells #[.int .i64 0, .string (⟨#[]⟩ : ByteArray), .int .i64 0, .slice none 0 0, .bool false] 71 (0, 0)) (by (with_reducible repeat (first | refine blk_drewN ?_ _ | refine blk_drew ?_ | refine blk_alloc ?_ _)); exact BK154.out)) : gb154 ≠ gb155))
                  have n6_ := Aside0.mk ((by rw [hg]; exact Nat.ne_of_gt (blk_lt (g := gb154) (o := .cells #[.int .i64 0, .string (⟨#[]⟩ : ByteArray), .int .i64 0, .slice none 0 0, .bool false] 71 (0, 0)) (by (with_reducible repeat (first | refine blk_drewN ?_ _ | refine blk_drew ?_ | refine blk_alloc ?_ _)); exact BK154.out)) : gb155 ≠ gb154))
                  clear BK154
                  clear HB
                  have BK154 := n0_
                  have HB := n1_
                  have BK155 := n2_
                  have GW155 := n3_
                  have GE155 := n4_
                  have NB154_155 := n5_
                  have NB155_154 := n6_
                  clear n0_ n1_ n2_ n3_ n4_ n5_ n6_
                  clear hb hbox hg
                  refine hK.out _ _ ⟨((HB.out.cell (World.block_lt_of_cell? w _ hw152_0)).trans hw152_0), ((HB.out.cell (World.block_lt_of_cell? w _ hw152_1)).trans hw152_1), ((HB.out.cell (World.block_lt_of_cell? w _ hw152_2)).trans hw152_2), ((HB.out.cell (World.block_lt_of_cell? w _ hw152_3)).trans hw152_3), ((HB.out.cell (World.block_lt_of_cell? w _ hw152_4)).trans hw152_4), ((HB.out.cell (World.block_lt_of_cell? w _ hw153_0)).trans hw153_0), ((HB.out.cell (World.block_lt_of_cell? w _ hw153_1)).trans hw153_1), ((HB.out.cell (World.block_lt_of_cell? w _ hw153_2)).trans hw153_2), ((HB.out.cell (World.block_lt_of_cell? w _ hw153_3)).trans hw153_3), ((HB.out.cell (World.block_lt_of_cell? w _ hw153_4)).trans hw153_4)⟩ (fun hHeld => ?_)
                  clear hK K
                  refine norm_ (a' := ?_) ?_ ?_
                  rotate_left
                  · show Act.put _ (some 7) _ = _
                    simp only [Act.put, List.setIfInBounds_toArray, List.set_cons_zero, List.set_cons_succ, i64_w, i32_w]
                    rfl
                  exact norm_ (by simp only [putAll, Act.put, List.setIfInBounds_toArray, List.set_cons_zero, List.set_cons_succ]) (hCont (gb154, gb155) _ ⟨hHeld, (by (with_reducible repeat (first | refine blk_drewN ?_ _ | refine blk_drew ?_ | refine blk_alloc ?_ _)); exact BK154.out), (by (with_reducible repeat (first | refine blk_drewN ?_ _ | refine blk_drew ?_ | refine blk_alloc ?_ _)); exact BK155.out), GW154.out, GE154.out, NB155_154.out, NB154_155.out, GW155.out, GE155.out, (by repeat (first | (with_reducible first | exact HB.out | apply below_alloc | apply pw_below_drewN | apply below_drew1 | refine below_set ?_ GE154.out | refine below_set ?_ GE155.out) | exact HB.out))⟩)
                · skip
                  refine box_step ?hg (N := 7) ?hd (cs := #[.int .i64 0, .string (⟨#[]⟩ : ByteArray), .int .i64 0, .slice none 0 0, .bool false]) (t := 71) ?hr ?_; (case hd => rfl); (case hg => rfl); (case hr => first | (go_simp; done) | (go_simp; rfl))
                  intro gb155 hg w9 hbox hb
                  have n0_ := Aside0.mk (below_step (by repeat (first | (with_reducible first | exact HB.out | apply below_alloc | apply pw_below_drewN | apply below_drew1) | exact HB.out)) hb)
                  have n1_ := Aside0.mk (hbox)
                  have n2_ := Aside0.mk ((by rw [hg]; exact (below_size (by repeat (first | (with_reducible first | exact HB.out | apply below_alloc | apply pw_below_drewN | apply below_drew1) | exact HB.out))) : w.heap.size ≤ gb155))
                  have n3_ := Aside0.mk ((by rw [hg]; exact (below_size (by repeat (first | (with_reducible first | exact HB.out | apply below_alloc | apply pw_below_drewN | apply below_drew1) | exact HB.out))) : w.heap.size ≤ gb155))
                  clear HB
                  have HB := n0_
                  have BK155 := n1_
                  have GW155 := n2_
                  have GE155 := n3_
                  clear n0_ n1_ n2_ n3_
                  clear hb hbox hg
                  refine hK.out _ _ ⟨((HB.out.cell (World.block_lt_of_cell? w _ hw152_0)).trans hw152_0), ((HB.out.cell (World.block_lt_of_cell? w _ hw152_1)).trans hw152_1), ((HB.out.cell (World.block_lt_of_cell? w _ hw152_2)).trans hw152_2), ((HB.out.cell (World.block_lt_of_cell? w _ hw152_3)).trans hw152_3), ((HB.out.cell (World.block_lt_of_cell? w _ hw152_4)).trans hw152_4), ((HB.out.cell (World.block_lt_of_cell? w _ hw153_0)).trans hw153_0), ((HB.out.cell (World.block_lt_of_cell? w _ hw153_1)).trans hw153_1), ((HB.out.cell (World.block_lt_of_cell? w _ hw153_2)).trans hw153_2), ((HB.out.cell (World.block_lt_of_cell? w _ hw153_3)).trans hw153_3), ((HB.out.cell (World.block_lt_of_cell? w _ hw153_4)).trans hw153_4)⟩ (fun hHeld => ?_)
                  clear hK K
                  refine norm_ (a' := ?_) ?_ ?_
                  rotate_left
                  · show Act.put _ (some 7) _ = _
                    simp only [Act.put, List.setIfInBounds_toArray, List.set_cons_zero, List.set_cons_succ, i64_w, i32_w]
                    rfl
                  refine one_ (i := 8) (N := some 6) #[true, true, true, true, true, true, true, true, true, true, false, false] rfl rfl (one_of HT_.out (by kernel_rfl)) (by decide) (fun K hK => ?_)
                  refine box_step ?hg (N := 6) ?hd (cs := #[.int .i64 0, .string (⟨#[]⟩ : ByteArray), .int .i64 0, .slice none 0 0, .bool false]) (t := 71) ?hr ?_; (case hd => rfl); (case hg => rfl); (case hr => first | (go_simp; done) | (go_simp; rfl))
                  intro gb154 hg w10 hbox hb
                  have n0_ := Aside0.mk (blk_below (g := gb155) (o := .cells #[.int .i64 0, .string (⟨#[]⟩ : ByteArray), .int .i64 0, .slice none 0 0, .bool false] 71 (0, 0)) (by (with_reducible repeat (first | refine blk_drewN ?_ _ | refine blk_drew ?_ | refine blk_alloc ?_ _)); exact BK155.out) hb)
                  have n1_ := Aside0.mk (below_step (by repeat (first | (with_reducible first | exact HB.out | apply below_alloc | apply pw_below_drewN | apply below_drew1 | refine below_set ?_ GE155.out) | exact HB.out)) hb)
                  have n2_ := Aside0.mk (hbox)
                  have n3_ := Aside0.mk ((by rw [hg]; exact (below_size (by repeat (first | (with_reducible first | exact HB.out | apply below_alloc | apply pw_below_drewN | apply below_drew1 | refine below_set ?_ GE155.out) | exact HB.out))) : w.heap.size ≤ gb154))
                  have n4_ := Aside0.mk ((by rw [hg]; exact (below_size (by repeat (first | (with_reducible first | exact HB.out | apply below_alloc | apply pw_below_drewN | apply below_drew1 | refine below_set ?_ GE155.out) | exact HB.out))) : w.heap.size ≤ gb154))
                  have n5_ := Aside0.mk ((by rw [hg]; exact Nat.ne_of_lt (blk_lt (g := gb155) (o := .cells #[.int .i64 0, .string (⟨#[]⟩ : ByteArray), .int .i64 0, .slice none 0 0, .bool false] 71 (0, 0)) (by (with_reducible repeat (first | refine blk_drewN ?_ _ | refine blk_drew ?_ | refine blk_alloc ?_ _)); exact BK155.out)) : gb155 ≠ gb154))
                  have n6_ := Aside0.mk ((by rw [hg]; exact Nat.ne_of_gt (blk_lt (g := gb155) (o := .cells #[.int .i64 0, .string (⟨#[]⟩ : ByteArray), .int .i64 0, .slice none 0 0, .bool false] 71 (0, 0)) (by (with_reducible repeat (first | refine blk_drewN ?_ _ | refine blk_drew ?_ | refine blk_alloc ?_ _)); exact BK155.out)) : gb154 ≠ gb155))
                  clear BK155
                  clear HB
                  have BK155 := n0_
                  have HB := n1_
                  have BK154 := n2_
                  have GW154 := n3_
                  have GE154 := n4_
                  have NB155_154 := n5_
                  have NB154_155 := n6_
                  clear n0_ n1_ n2_ n3_ n4_ n5_ n6_
                  clear hb hbox hg
                  refine hK.out _ _ ⟨((HB.out.cell (World.block_lt_of_cell? w _ hw152_0)).trans hw152_0), ((HB.out.cell (World.block_lt_of_cell? w _ hw152_1)).trans hw152_1), ((HB.out.cell (World.block_lt_of_cell? w _ hw152_2)).trans hw152_2), ((HB.out.cell (World.block_lt_of_cell? w _ hw152_3)).trans hw152_3), ((HB.out.cell (World.block_lt_of_cell? w _ hw152_4)).trans hw152_4), ((HB.out.cell (World.block_lt_of_cell? w _ hw153_0)).trans hw153_0), ((HB.out.cell (World.block_lt_of_cell? w _ hw153_1)).trans hw153_1), ((HB.out.cell (World.block_lt_of_cell? w _ hw153_2)).trans hw153_2), ((HB.out.cell (World.block_lt_of_cell? w _ hw153_3)).trans hw153_3), ((HB.out.cell (World.block_lt_of_cell? w _ hw153_4)).trans hw153_4)⟩ (fun hHeld => ?_)
                  clear hK K
                  refine norm_ (a' := ?_) ?_ ?_
                  rotate_left
                  · show Act.put _ (some 6) _ = _
                    simp only [Act.put, List.setIfInBounds_toArray, List.set_cons_zero, List.set_cons_succ, i64_w, i32_w]
                    rfl
                  exact norm_ (by simp only [putAll, Act.put, List.setIfInBounds_toArray, List.set_cons_zero, List.set_cons_succ]) (hCont (gb154, gb155) _ ⟨hHeld, (by (with_reducible repeat (first | refine blk_drewN ?_ _ | refine blk_drew ?_ | refine blk_alloc ?_ _)); exact BK154.out), (by (with_reducible repeat (first | refine blk_drewN ?_ _ | refine blk_drew ?_ | refine blk_alloc ?_ _)); exact BK155.out), GW154.out, GE154.out, NB155_154.out, NB154_155.out, GW155.out, GE155.out, (by repeat (first | (with_reducible first | exact HB.out | apply below_alloc | apply pw_below_drewN | apply below_drew1 | refine below_set ?_ GE155.out | refine below_set ?_ GE154.out) | exact HB.out))⟩)
              rintro ⟨gb154, gb155⟩ w11 ⟨hS_, h0_, h1_, h2_, h3_, h4_, h5_, h6_, h7_, h8_⟩
              have n0_ : Aside0 (w11.heap[gb154]? = some (.cells #[.int .i64 0, .string (⟨#[]⟩ : ByteArray), .int .i64 0, .slice none 0 0, .bool false] 71 (0, 0))) := ⟨h0_⟩
              have n1_ : Aside0 (w11.heap[gb155]? = some (.cells #[.int .i64 0, .string (⟨#[]⟩ : ByteArray), .int .i64 0, .slice none 0 0, .bool false] 71 (0, 0))) := ⟨h1_⟩
              have n2_ : Aside0 (w.heap.size ≤ gb154) := ⟨h2_⟩
              have n3_ : Aside0 (w.heap.size ≤ gb154) := ⟨h3_⟩
              have n4_ : Aside0 (gb155 ≠ gb154) := ⟨h4_⟩
              have n5_ : Aside0 (gb154 ≠ gb155) := ⟨h5_⟩
              have n6_ : Aside0 (w.heap.size ≤ gb155) := ⟨h6_⟩
              have n7_ : Aside0 (w.heap.size ≤ gb155) := ⟨h7_⟩
              have n8_ : Aside0 (Below w.heap.size w w11) := ⟨h8_⟩
              clear HB
              clear h0_ h1_ h2_ h3_ h4_ h5_ h6_ h7_ h8_
              have BK154 := n0_
              have BK155 := n1_
              have GW154 := n2_
              have GE154 := n3_
              have NB155_154 := n4_
              have NB154_155 := n5_
              have GW155 := n6_
              have GE155 := n7_
              have HB := n8_
              clear n0_ n1_ n2_ n3_ n4_ n5_ n6_ n7_ n8_
              have hHeld : w11.cell? (ad152.add ((x5_1).toNat * 5)) = some (.int .i64 ((rd_T71 l0 x5_1).f0)) ∧ w11.cell? ⟨(ad152.add ((x5_1).toNat * 5)).block, (ad152.add ((x5_1).toNat * 5)).off + 1, none⟩ = some (.string ((rd_T71 l0 x5_1).f1.f0)) ∧ w11.cell? ⟨(ad152.add ((x5_1).toNat * 5)).block, (ad152.add ((x5_1).toNat * 5)).off + 2, none⟩ = some (.int .i64 ((rd_T71 l0 x5_1).f1.f1)) ∧ w11.cell? ⟨(ad152.add ((x5_1).toNat * 5)).block, (ad152.add ((x5_1).toNat * 5)).off + 3, none⟩ = some (.slice A152_3 ((rd_T71 l0 x5_1).f1.f2).length c152_3) ∧ w11.cell? ⟨(ad152.add ((x5_1).toNat * 5)).block, (ad152.add ((x5_1).toNat * 5)).off + 4, none⟩ = some (.bool ((rd_T71 l0 x5_1).f2)) ∧ w11.cell? (ad153.add ((x5_1).toNat * 5)) = some (.int .i64 ((rd_T71 l1 x5_1).f0)) ∧ w11.cell? ⟨(ad153.add ((x5_1).toNat * 5)).block, (ad153.add ((x5_1).toNat * 5)).off + 1, none⟩ = some (.string ((rd_T71 l1 x5_1).f1.f0)) ∧ w11.cell? ⟨(ad153.add ((x5_1).toNat * 5)).block, (ad153.add ((x5_1).toNat * 5)).off + 2, none⟩ = some (.int .i64 ((rd_T71 l1 x5_1).f1.f1)) ∧ w11.cell? ⟨(ad153.add ((x5_1).toNat * 5)).block, (ad153.add ((x5_1).toNat * 5)).off + 3, none⟩ = some (.slice A153_3 ((rd_T71 l1 x5_1).f1.f2).length c153_3) ∧ w11.cell? ⟨(ad153.add ((x5_1).toNat * 5)).block, (ad153.add ((x5_1).toNat * 5)).off + 4, none⟩ = some (.bool ((rd_T71 l1 x5_1).f2)) := hS_
              refine norm_ (a' := ?_) ?_ ?_
              rotate_left
              · simp only [putAll, Act.put, List.setIfInBounds_toArray, List.set_cons_zero, List.set_cons_succ]
                rfl
              refine one_ (i := 10) (N := none) #[true, true, true, true, true, true, true, true, true, true, true, false] rfl rfl (one_of HT_.out (by kernel_rfl)) (by decide) (fun K hK => ?_)
              have hs12 : w11.cell? ⟨gb154, 0, none⟩ = some (.int .i64 0) := (blk_cell BK154.out 0).trans rfl
              have hfs12 := blk_frozen BK154.out 0
              have hns12_1 := NB155_154.out
              have hms12_1 := NB154_155.out
              have hs13 : w11.cell? ⟨gb154, 1, none⟩ = some (.string (⟨#[]⟩ : ByteArray)) := (blk_cell BK154.out 1).trans rfl
              have hfs13 := blk_frozen BK154.out 1
              have hns13_1 := NB155_154.out
              have hms13_1 := NB154_155.out
              have hs14 : w11.cell? ⟨gb154, 2, none⟩ = some (.int .i64 0) := (blk_cell BK154.out 2).trans rfl
              have hfs14 := blk_frozen BK154.out 2
              have hns14_1 := NB155_154.out
              have hms14_1 := NB154_155.out
              have hs15 : w11.cell? ⟨gb154, 3, none⟩ = some (.slice none 0 0) := (blk_cell BK154.out 3).trans rfl
              have hfs15 := blk_frozen BK154.out 3
              have hns15_1 := NB155_154.out
              have hms15_1 := NB154_155.out
              have hs16 : w11.cell? ⟨gb154, 4, none⟩ = some (.bool false) := (blk_cell BK154.out 4).trans rfl
              have hfs16 := blk_frozen BK154.out 4
              have hns16_1 := NB155_154.out
              have hms16_1 := NB154_155.out
              refine skip_ (w1 := ?_) (by rfl) rfl ?_ ?_
              rotate_left
              · go_simp
                rfl
              refine hK.out _ _ ⟨((cell_far (p := ⟨gb154, _, none⟩) (by first | exact Nat.ne_of_lt (Nat.lt_of_lt_of_le (by have := World.block_lt_of_cell? _ _ hw152_0; first | rwa [add_block] at this | exact this) GW154.out) | (rw [add_block]; exact Nat.ne_of_lt (Nat.lt_of_lt_of_le (by have := World.block_lt_of_cell? _ _ hw152_0; first | rwa [add_block] at this | exact this) GW154.out)) | (show (Addr.add _ _).block ≠ _; rw [add_block]; exact Nat.ne_of_lt (Nat.lt_of_lt_of_le (by have := World.block_lt_of_cell? _ _ hw152_0; first | rwa [add_block] at this | exact this) GW154.out)) | (dsimp only; exact Nat.ne_of_lt (Nat.lt_of_lt_of_le (by have := World.block_lt_of_cell? _ _ hw152_0; first | rwa [add_block] at this | exact this) GW154.out))) _).trans (((cell_far (p := ⟨gb154, _, none⟩) (by first | exact Nat.ne_of_lt (Nat.lt_of_lt_of_le (by have := World.block_lt_of_cell? _ _ hw152_0; first | rwa [add_block] at this | exact this) GW154.out) | (rw [add_block]; exact Nat.ne_of_lt (Nat.lt_of_lt_of_le (by have := World.block_lt_of_cell? _ _ hw152_0; first | rwa [add_block] at this | exact this) GW154.out)) | (show (Addr.add _ _).block ≠ _; rw [add_block]; exact Nat.ne_of_lt (Nat.lt_of_lt_of_le (by have := World.block_lt_of_cell? _ _ hw152_0; first | rwa [add_block] at this | exact this) GW154.out)) | (dsimp only; exact Nat.ne_of_lt (Nat.lt_of_lt_of_le (by have := World.block_lt_of_cell? _ _ hw152_0; first | rwa [add_block] at this | exact this) GW154.out))) _).trans (((cell_far (p := ⟨gb154, _, none⟩) (by first | exact Nat.ne_of_lt (Nat.lt_of_lt_of_le (by have := World.block_lt_of_cell? _ _ hw152_0; first | rwa [add_block] at this | exact this) GW154.out) | (rw [add_block]; exact Nat.ne_of_lt (Nat.lt_of_lt_of_le (by have := World.block_lt_of_cell? _ _ hw152_0; first | rwa [add_block] at this | exact this) GW154.out)) | (show (Addr.add _ _).block ≠ _; rw [add_block]; exact Nat.ne_of_lt (Nat.lt_of_lt_of_le (by have := World.block_lt_of_cell? _ _ hw152_0; first | rwa [add_block] at this | exact this) GW154.out)) | (dsimp only; exact Nat.ne_of_lt (Nat.lt_of_lt_of_le (by have := World.block_lt_of_cell? _ _ hw152_0; first | rwa [add_block] at this | exact this) GW154.out))) _).trans (((cell_far (p := ⟨gb154, _, none⟩) (by first | exact Nat.ne_of_lt (Nat.lt_of_lt_of_le (by have := World.block_lt_of_cell? _ _ hw152_0; first | rwa [add_block] at this | exact this) GW154.out) | (rw [add_block]; exact Nat.ne_of_lt (Nat.lt_of_lt_of_le (by have := World.block_lt_of_cell? _ _ hw152_0; first | rwa [add_block] at this | exact this) GW154.out)) | (show (Addr.add _ _).block ≠ _; rw [add_block]; exact Nat.ne_of_lt (Nat.lt_of_lt_of_le (by have := World.block_lt_of_cell? _ _ hw152_0; first | rwa [add_block] at this | exact this) GW154.out)) | (dsimp only; exact Nat.ne_of_lt (Nat.lt_of_lt_of_le (by have := World.block_lt_of_cell? _ _ hw152_0; first | rwa [add_block] at this | exact this) GW154.out))) _).trans (((cell_far (p := ⟨gb154, _, none⟩) (by first | exact Nat.ne_of_lt (Nat.lt_of_lt_of_le (by have := World.block_lt_of_cell? _ _ hw152_0; first | rwa [add_block] at this | exact this) GW154.out) | (rw [add_block]; exact Nat.ne_of_lt (Nat.lt_of_lt_of_le (by have := World.block_lt_of_cell? _ _ hw152_0; first | rwa [add_block] at this | exact this) GW154.out)) | (show (Addr.add _ _).block ≠ _; rw [add_block]; exact Nat.ne_of_lt (Nat.lt_of_lt_of_le (by have := World.block_lt_of_cell? _ _ hw152_0; first | rwa [add_block] at this | exact this) GW154.out)) | (dsimp only; exact Nat.ne_of_lt (Nat.lt_of_lt_of_le (by have := World.block_lt_of_cell? _ _ hw152_0; first | rwa [add_block] at this | exact this) GW154.out))) _).trans (hHeld.1)))))))))), ((cell_far (p := ⟨gb154, _, none⟩) (by first | exact Nat.ne_of_lt (Nat.lt_of_lt_of_le (by have := World.block_lt_of_cell? _ _ hw152_1; first | rwa [add_block] at this | exact this) GW154.out) | (rw [add_block]; exact Nat.ne_of_lt (Nat.lt_of_lt_of_le (by have := World.block_lt_of_cell? _ _ hw152_1; first | rwa [add_block] at this | exact this) GW154.out)) | (show (Addr.add _ _).block ≠ _; rw [add_block]; exact Nat.ne_of_lt (Nat.lt_of_lt_of_le (by have := World.block_lt_of_cell? _ _ hw152_1; first | rwa [add_block] at this | exact this) GW154.out)) | (dsimp only; exact Nat.ne_of_lt (Nat.lt_of_lt_of_le (by have := World.block_lt_of_cell? _ _ hw152_1; first | rwa [add_block] at this | exact this) GW154.out))) _).trans (((cell_far (p := ⟨gb154, _, none⟩) (by first | exact Nat.ne_of_lt (Nat.lt_of_lt_of_le (by have := World.block_lt_of_cell? _ _ hw152_1; first | rwa [add_block] at this | exact this) GW154.out) | (rw [add_block]; exact Nat.ne_of_lt (Nat.lt_of_lt_of_le (by have := World.block_lt_of_cell? _ _ hw152_1; first | rwa [add_block] at this | exact this) GW154.out)) | (show (Addr.add _ _).block ≠ _; rw [add_block]; exact Nat.ne_of_lt (Nat.lt_of_lt_of_le (by have := World.block_lt_of_cell? _ _ hw152_1; first | rwa [add_block] at this | exact this) GW154.out)) | (dsimp only; exact Nat.ne_of_lt (Nat.lt_of_lt_of_le (by have := World.block_lt_of_cell? _ _ hw152_1; first | rwa [add_block] at this | exact this) GW154.out))) _).trans (((cell_far (p := ⟨gb154, _, none⟩) (by first | exact Nat.ne_of_lt (Nat.lt_of_lt_of_le (by have := World.block_lt_of_cell? _ _ hw152_1; first | rwa [add_block] at this | exact this) GW154.out) | (rw [add_block]; exact Nat.ne_of_lt (Nat.lt_of_lt_of_le (by have := World.block_lt_of_cell? _ _ hw152_1; first | rwa [add_block] at this | exact this) GW154.out)) | (show (Addr.add _ _).block ≠ _; rw [add_block]; exact Nat.ne_of_lt (Nat.lt_of_lt_of_le (by have := World.block_lt_of_cell? _ _ hw152_1; first | rwa [add_block] at this | exact this) GW154.out)) | (dsimp only; exact Nat.ne_of_lt (Nat.lt_of_lt_of_le (by have := World.block_lt_of_cell? _ _ hw152_1; first | rwa [add_block] at this | exact this) GW154.out))) _).trans (((cell_far (p := ⟨gb154, _, none⟩) (by first | exact Nat.ne_of_lt (Nat.lt_of_lt_of_le (by have := World.block_lt_of_cell? _ _ hw152_1; first | rwa [add_block] at this | exact this) GW154.out) | (rw [add_block]; exact Nat.ne_of_lt (Nat.lt_of_lt_of_le (by have := World.block_lt_of_cell? _ _ hw152_1; first | rwa [add_block] at this | exact this) GW154.out)) | (show (Addr.add _ _).block ≠ _; rw [add_block]; exact Nat.ne_of_lt (Nat.lt_of_lt_of_le (by have := World.block_lt_of_cell? _ _ hw152_1; first | rwa [add_block] at this | exact this) GW154.out)) | (dsimp only; exact Nat.ne_of_lt (Nat.lt_of_lt_of_le (by have := World.block_lt_of_cell? _ _ hw152_1; first | rwa [add_block] at this | exact this) GW154.out))) _).trans (((cell_far (p := ⟨gb154, _, none⟩) (by first | exact Nat.ne_of_lt (Nat.lt_of_lt_of_le (by have := World.block_lt_of_cell? _ _ hw152_1; first | rwa [add_block] at this | exact this) GW154.out) | (rw [add_block]; exact Nat.ne_of_lt (Nat.lt_of_lt_of_le (by have := World.block_lt_of_cell? _ _ hw152_1; first | rwa [add_block] at this | exact this) GW154.out)) | (show (Addr.add _ _).block ≠ _; rw [add_block]; exact Nat.ne_of_lt (Nat.lt_of_lt_of_le (by have := World.block_lt_of_cell? _ _ hw152_1; first | rwa [add_block] at this | exact this) GW154.out)) | (dsimp only; exact Nat.ne_of_lt (Nat.lt_of_lt_of_le (by have := World.block_lt_of_cell? _ _ hw152_1; first | rwa [add_block] at this | exact this) GW154.out))) _).trans (hHeld.2.1)))))))))), ((cell_far (p := ⟨gb154, _, none⟩) (by first | exact Nat.ne_of_lt (Nat.lt_of_lt_of_le (by have := World.block_lt_of_cell? _ _ hw152_2; first | rwa [add_block] at this | exact this) GW154.out) | (rw [add_block]; exact Nat.ne_of_lt (Nat.lt_of_lt_of_le (by have := World.block_lt_of_cell? _ _ hw152_2; first | rwa [add_block] at this | exact this) GW154.out)) | (show (Addr.add _ _).block ≠ _; rw [add_block]; exact Nat.ne_of_lt (Nat.lt_of_lt_of_le (by have := World.block_lt_of_cell? _ _ hw152_2; first | rwa [add_block] at this | exact this) GW154.out)) | (dsimp only; exact Nat.ne_of_lt (Nat.lt_of_lt_of_le (by have := World.block_lt_of_cell? _ _ hw152_2; first | rwa [add_block] at this | exact this) GW154.out))) _).trans (((cell_far (p := ⟨gb154, _, none⟩) (by first | exact Nat.ne_of_lt (Nat.lt_of_lt_of_le (by have := World.block_lt_of_cell? _ _ hw152_2; first | rwa [add_block] at this | exact this) GW154.out) | (rw [add_block]; exact Nat.ne_of_lt (Nat.lt_of_lt_of_le (by have := World.block_lt_of_cell? _ _ hw152_2; first | rwa [add_block] at this | exact this) GW154.out)) | (show (Addr.add _ _).block ≠ _; rw [add_block]; exact Nat.ne_of_lt (Nat.lt_of_lt_of_le (by have := World.block_lt_of_cell? _ _ hw152_2; first | rwa [add_block] at this | exact this) GW154.out)) | (dsimp only; exact Nat.ne_of_lt (Nat.lt_of_lt_of_le (by have := World.block_lt_of_cell? _ _ hw152_2; first | rwa [add_block] at this | exact this) GW154.out))) _).trans (((cell_far (p := ⟨gb154, _, none⟩) (by first | exact Nat.ne_of_lt (Nat.lt_of_lt_of_le (by have := World.block_lt_of_cell? _ _ hw152_2; first | rwa [add_block] at this | exact this) GW154.out) | (rw [add_block]; exact Nat.ne_of_lt (Nat.lt_of_lt_of_le (by have := World.block_lt_of_cell? _ _ hw152_2; first | rwa [add_block] at this | exact this) GW154.out)) | (show (Addr.add _ _).block ≠ _; rw [add_block]; exact Nat.ne_of_lt (Nat.lt_of_lt_of_le (by have := World.block_lt_of_cell? _ _ hw152_2; first | rwa [add_block] at this | exact this) GW154.out)) | (dsimp only; exact Nat.ne_of_lt (Nat.lt_of_lt_of_le (by have := World.block_lt_of_cell? _ _ hw152_2; first | rwa [add_block] at this | exact this) GW154.out))) _).trans (((cell_far (p := ⟨gb154, _, none⟩) (by first | exact Nat.ne_of_lt (Nat.lt_of_lt_of_le (by have := World.block_lt_of_cell? _ _ hw152_2; first | rwa [add_block] at this | exact this) GW154.out) | (rw [add_block]; exact Nat.ne_of_lt (Nat.lt_of_lt_of_le (by have := World.block_lt_of_cell? _ _ hw152_2; first | rwa [add_block] at this | exact this) GW154.out)) | (show (Addr.add _ _).block ≠ _; rw [add_block]; exact Nat.ne_of_lt (Nat.lt_of_lt_of_le (by have := World.block_lt_of_cell? _ _ hw152_2; first | rwa [add_block] at this | exact this) GW154.out)) | (dsimp only; exact Nat.ne_of_lt (Nat.lt_of_lt_of_le (by have := World.block_lt_of_cell? _ _ hw152_2; first | rwa [add_block] at this | exact this) GW154.out))) _).trans (((cell_far (p := ⟨gb154, _, none⟩) (by first | exact Nat.ne_of_lt (Nat.lt_of_lt_of_le (by have := World.block_lt_of_cell? _ _ hw152_2; first | rwa [add_block] at this | exact this) GW154.out) | (rw [add_block]; exact Nat.ne_of_lt (Nat.lt_of_lt_of_le (by have := World.block_lt_of_cell? _ _ hw152_2; first | rwa [add_block] at this | exact this) GW154.out)) | (show (Addr.add _ _).block ≠ _; rw [add_block]; exact Nat.ne_of_lt (Nat.lt_of_lt_of_le (by have := World.block_lt_of_cell? _ _ hw152_2; first | rwa [add_block] at this | exact this) GW154.out)) | (dsimp only; exact Nat.ne_of_lt (Nat.lt_of_lt_of_le (by have := World.block_lt_of_cell? _ _ hw152_2; first | rwa [add_block] at this | exact this) GW154.out))) _).trans (hHeld.2.2.1)))))))))), ((cell_far (p := ⟨gb154, _, none⟩) (by first | exact Nat.ne_of_lt (Nat.lt_of_lt_of_le (by have := World.block_lt_of_cell? _ _ hw152_3; first | rwa [add_block] at this | exact this) GW154.out) | (rw [add_block]; exact Nat.ne_of_lt (Nat.lt_of_lt_of_le (by have := World.block_lt_of_cell? _ _ hw152_3; first | rwa [add_block] at this | exact this) GW154.out)) | (show (Addr.add _ _).block ≠ _; rw [add_block]; exact Nat.ne_of_lt (Nat.lt_of_lt_of_le (by have := World.block_lt_of_cell? _ _ hw152_3; first | rwa [add_block] at this | exact this) GW154.out)) | (dsimp only; exact Nat.ne_of_lt (Nat.lt_of_lt_of_le (by have := World.block_lt_of_cell? _ _ hw152_3; first | rwa [add_block] at this | exact this) GW154.out))) _).trans (((cell_far (p := ⟨gb154, _, none⟩) (by first | exact Nat.ne_of_lt (Nat.lt_of_lt_of_le (by have := World.block_lt_of_cell? _ _ hw152_3; first | rwa [add_block] at this | exact this) GW154.out) | (rw [add_block]; exact Nat.ne_of_lt (Nat.lt_of_lt_of_le (by have := World.block_lt_of_cell? _ _ hw152_3; first | rwa [add_block] at this | exact this) GW154.out)) | (show (Addr.add _ _).block ≠ _; rw [add_block]; exact Nat.ne_of_lt (Nat.lt_of_lt_of_le (by have := World.block_lt_of_cell? _ _ hw152_3; first | rwa [add_block] at this | exact this) GW154.out)) | (dsimp only; exact Nat.ne_of_lt (Nat.lt_of_lt_of_le (by have := World.block_lt_of_cell? _ _ hw152_3; first | rwa [add_block] at this | exact this) GW154.out))) _).trans (((cell_far (p := ⟨gb154, _, none⟩) (by first | exact Nat.ne_of_lt (Nat.lt_of_lt_of_le (by have := World.block_lt_of_cell? _ _ hw152_3; first | rwa [add_block] at this | exact this) GW154.out) | (rw [add_block]; exact Nat.ne_of_lt (Nat.lt_of_lt_of_le (by have := World.block_lt_of_cell? _ _ hw152_3; first | rwa [add_block] at this | exact this) GW154.out)) | (show (Addr.add _ _).block ≠ _; rw [add_block]; exact Nat.ne_of_lt (Nat.lt_of_lt_of_le (by have := World.block_lt_of_cell? _ _ hw152_3; first | rwa [add_block] at this | exact this) GW154.out)) | (dsimp only; exact Nat.ne_of_lt (Nat.lt_of_lt_of_le (by have := World.block_lt_of_cell? _ _ hw152_3; first | rwa [add_block] at this | exact this) GW154.out))) _).trans (((cell_far (p := ⟨gb154, _, none⟩) (by first | exact Nat.ne_of_lt (Nat.lt_of_lt_of_le (by have := World.block_lt_of_cell? _ _ hw152_3; first | rwa [add_block] at this | exact this) GW154.out) | (rw [add_block]; exact Nat.ne_of_lt (Nat.lt_of_lt_of_le (by have := World.block_lt_of_cell? _ _ hw152_3; first | rwa [add_block] at this | exact this) GW154.out)) | (show (Addr.add _ _).block ≠ _; rw [add_block]; exact Nat.ne_of_lt (Nat.lt_of_lt_of_le (by have := World.block_lt_of_cell? _ _ hw152_3; first | rwa [add_block] at this | exact this) GW154.out)) | (dsimp only; exact Nat.ne_of_lt (Nat.lt_of_lt_of_le (by have := World.block_lt_of_cell? _ _ hw152_3; first | rwa [add_block] at this | exact this) GW154.out))) _).trans (((cell_far (p := ⟨gb154, _, none⟩) (by first | exact Nat.ne_of_lt (Nat.lt_of_lt_of_le (by have := World.block_lt_of_cell? _ _ hw152_3; first | rwa [add_block] at this | exact this) GW154.out) | (rw [add_block]; exact Nat.ne_of_lt (Nat.lt_of_lt_of_le (by have := World.block_lt_of_cell? _ _ hw152_3; first | rwa [add_block] at this | exact this) GW154.out)) | (show (Addr.add _ _).block ≠ _; rw [add_block]; exact Nat.ne_of_lt (Nat.lt_of_lt_of_le (by have := World.block_lt_of_cell? _ _ hw152_3; first | rwa [add_block] at this | exact this) GW154.out)) | (dsimp only; exact Nat.ne_of_lt (Nat.lt_of_lt_of_le (by have := World.block_lt_of_cell? _ _ hw152_3; first | rwa [add_block] at this | exact this) GW154.out))) _).trans (hHeld.2.2.2.1)))))))))), ((cell_far (p := ⟨gb154, _, none⟩) (by first | exact Nat.ne_of_lt (Nat.lt_of_lt_of_le (by have := World.block_lt_of_cell? _ _ hw152_4; first | rwa [add_block] at this | exact this) GW154.out) | (rw [add_block]; exact Nat.ne_of_lt (Nat.lt_of_lt_of_le (by have := World.block_lt_of_cell? _ _ hw152_4; first | rwa [add_block] at this | exact this) GW154.out)) | (show (Addr.add _ _).block ≠ _; rw [add_block]; exact Nat.ne_of_lt (Nat.lt_of_lt_of_le (by have := World.block_lt_of_cell? _ _ hw152_4; first | rwa [add_block] at this | exact this) GW154.out)) | (dsimp only; exact Nat.ne_of_lt (Nat.lt_of_lt_of_le (by have := World.block_lt_of_cell? _ _ hw152_4; first | rwa [add_block] at this | exact this) GW154.out))) _).trans (((cell_far (p := ⟨gb154, _, none⟩) (by first | exact Nat.ne_of_lt (Nat.lt_of_lt_of_le (by have := World.block_lt_of_cell? _ _ hw152_4; first | rwa [add_block] at this | exact this) GW154.out) | (rw [add_block]; exact Nat.ne_of_lt (Nat.lt_of_lt_of_le (by have := World.block_lt_of_cell? _ _ hw152_4; first | rwa [add_block] at this | exact this) GW154.out)) | (show (Addr.add _ _).block ≠ _; rw [add_block]; exact Nat.ne_of_lt (Nat.lt_of_lt_of_le (by have := World.block_lt_of_cell? _ _ hw152_4; first | rwa [add_block] at this | exact this) GW154.out)) | (dsimp only; exact Nat.ne_of_lt (Nat.lt_of_lt_of_le (by have := World.block_lt_of_cell? _ _ hw152_4; first | rwa [add_block] at this | exact this) GW154.out))) _).trans (((cell_far (p := ⟨gb154, _, none⟩) (by first | exact Nat.ne_of_lt (Nat.lt_of_lt_of_le (by have := World.block_lt_of_cell? _ _ hw152_4; first | rwa [add_block] at this | exact this) GW154.out) | (rw [add_block]; exact Nat.ne_of_lt (Nat.lt_of_lt_of_le (by have := World.block_lt_of_cell? _ _ hw152_4; first | rwa [add_block] at this | exact this) GW154.out)) | (show (Addr.add _ _).block ≠ _; rw [add_block]; exact Nat.ne_of_lt (Nat.lt_of_lt_of_le (by have := World.block_lt_of_cell? _ _ hw152_4; first | rwa [add_block] at this | exact this) GW154.out)) | (dsimp only; exact Nat.ne_of_lt (Nat.lt_of_lt_of_le (by have := World.block_lt_of_cell? _ _ hw152_4; first | rwa [add_block] at this | exact this) GW154.out))) _).trans (((cell_far (p := ⟨gb154, _, none⟩) (by first | exact Nat.ne_of_lt (Nat.lt_of_lt_of_le (by have := World.block_lt_of_cell? _ _ hw152_4; first | rwa [add_block] at this | exact this) GW154.out) | (rw [add_block]; exact Nat.ne_of_lt (Nat.lt_of_lt_of_le (by have := World.block_lt_of_cell? _ _ hw152_4; first | rwa [add_block] at this | exact this) GW154.out)) | (show (Addr.add _ _).block ≠ _; rw [add_block]; exact Nat.ne_of_lt (Nat.lt_of_lt_of_le (by have := World.block_lt_of_cell? _ _ hw152_4; first | rwa [add_block] at this | exact this) GW154.out)) | (dsimp only; exact Nat.ne_of_lt (Nat.lt_of_lt_of_le (by have := World.block_lt_of_cell? _ _ hw152_4; first | rwa [add_block] at this | exact this) GW154.out))) _).trans (((cell_far (p := ⟨gb154, _, none⟩) (by first | exact Nat.ne_of_lt (Nat.lt_of_lt_of_le (by have := World.block_lt_of_cell? _ _ hw152_4; first | rwa [add_block] at this | exact this) GW154.out) | (rw [add_block]; exact Nat.ne_of_lt (Nat.lt_of_lt_of_le (by have := World.block_lt_of_cell? _ _ hw152_4; first | rwa [add_block] at this | exact this) GW154.out)) | (show (Addr.add _ _).block ≠ _; rw [add_block]; exact Nat.ne_of_lt (Nat.lt_of_lt_of_le (by have := World.block_lt_of_cell? _ _ hw152_4; first | rwa [add_block] at this | exact this) GW154.out)) | (dsimp only; exact Nat.ne_of_lt (Nat.lt_of_lt_of_le (by have := World.block_lt_of_cell? _ _ hw152_4; first | rwa [add_block] at this | exact this) GW154.out))) _).trans (hHeld.2.2.2.2.1)))))))))), ((cell_far (p := ⟨gb154, _, none⟩) (by first | exact Nat.ne_of_lt (Nat.lt_of_lt_of_le (by have := World.block_lt_of_cell? _ _ hw153_0; first | rwa [add_block] at this | exact this) GW154.out) | (rw [add_block]; exact Nat.ne_of_lt (Nat.lt_of_lt_of_le (by have := World.block_lt_of_cell? _ _ hw153_0; first | rwa [add_block] at this | exact this) GW154.out)) | (show (Addr.add _ _).block ≠ _; rw [add_block]; exact Nat.ne_of_lt (Nat.lt_of_lt_of_le (by have := World.block_lt_of_cell? _ _ hw153_0; first | rwa [add_block] at this | exact this) GW154.out)) | (dsimp only; exact Nat.ne_of_lt (Nat.lt_of_lt_of_le (by have := World.block_lt_of_cell? _ _ hw153_0; first | rwa [add_block] at this | exact this) GW154.out))) _).trans (((cell_far (p := ⟨gb154, _, none⟩) (by first | exact Nat.ne_of_lt (Nat.lt_of_lt_of_le (by have := World.block_lt_of_cell? _ _ hw153_0; first | rwa [add_block] at this | exact this) GW154.out) | (rw [add_block]; exact Nat.ne_of_lt (Nat.lt_of_lt_of_le (by have := World.block_lt_of_cell? _ _ hw153_0; first | rwa [add_block] at this | exact this) GW154.out)) | (show (Addr.add _ _).block ≠ _; rw [add_block]; exact Nat.ne_of_lt (Nat.lt_of_lt_of_le (by have := World.block_lt_of_cell? _ _ hw153_0; first | rwa [add_block] at this | exact this) GW154.out)) | (dsimp only; exact Nat.ne_of_lt (Nat.lt_of_lt_of_le (by have := World.block_lt_of_cell? _ _ hw153_0; first | rwa [add_block] at this | exact this) GW154.out))) _).trans (((cell_far (p := ⟨gb154, _, none⟩) (by first | exact Nat.ne_of_lt (Nat.lt_of_lt_of_le (by have := World.block_lt_of_cell? _ _ hw153_0; first | rwa [add_block] at this | exact this) GW154.out) | (rw [add_block]; exact Nat.ne_of_lt (Nat.lt_of_lt_of_le (by have := World.block_lt_of_cell? _ _ hw153_0; first | rwa [add_block] at this | exact this) GW154.out)) | (show (Addr.add _ _).block ≠ _; rw [add_block]; exact Nat.ne_of_lt (Nat.lt_of_lt_of_le (by have := World.block_lt_of_cell? _ _ hw153_0; first | rwa [add_block] at this | exact this) GW154.out)) | (dsimp only; exact Nat.ne_of_lt (Nat.lt_of_lt_of_le (by have := World.block_lt_of_cell? _ _ hw153_0; first | rwa [add_block] at this | exact this) GW154.out))) _).trans (((cell_far (p := ⟨gb154, _, none⟩) (by first | exact Nat.ne_of_lt (Nat.lt_of_lt_of_le (by have := World.block_lt_of_cell? _ _ hw153_0; first | rwa [add_block] at this | exact this) GW154.out) | (rw [add_block]; exact Nat.ne_of_lt (Nat.lt_of_lt_of_le (by have := World.block_lt_of_cell? _ _ hw153_0; first | rwa [add_block] at this | exact this) GW154.out)) | (show (Addr.add _ _).block ≠ _; rw [add_block]; exact Nat.ne_of_lt (Nat.lt_of_lt_of_le (by have := World.block_lt_of_cell? _ _ hw153_0; first | rwa [add_block] at this | exact this) GW154.out)) | (dsimp only; exact Nat.ne_of_lt (Nat.lt_of_lt_of_le (by have := World.block_lt_of_cell? _ _ hw153_0; first | rwa [add_block] at this | exact this) GW154.out))) _).trans (((cell_far (p := ⟨gb154, _, none⟩) (by first | exact Nat.ne_of_lt (Nat.lt_of_lt_of_le (by have := World.block_lt_of_cell? _ _ hw153_0; first | rwa [add_block] at this | exact this) GW154.out) | (rw [add_block]; exact Nat.ne_of_lt (Nat.lt_of_lt_of_le (by have := World.block_lt_of_cell? _ _ hw153_0; first | rwa [add_block] at this | exact this) GW154.out)) | (show (Addr.add _ _).block ≠ _; rw [add_block]; exact Nat.ne_of_lt (Nat.lt_of_lt_of_le (by have := World.block_lt_of_cell? _ _ hw153_0; first | rwa [add_block] at this | exact this) GW154.out)) | (dsimp only; exact Nat.ne_of_lt (Nat.lt_of_lt_of_le (by have := World.block_lt_of_cell? _ _ hw153_0; first | rwa [add_block] at this | exact this) GW154.out))) _).trans (hHeld.2.2.2.2.2.1)))))))))), ((cell_far (p := ⟨gb154, _, none⟩) (by first | exact Nat.ne_of_lt (Nat.lt_of_lt_of_le (by have := World.block_lt_of_cell? _ _ hw153_1; first | rwa [add_block] at this | exact this) GW154.out) | (rw [add_block]; exact Nat.ne_of_lt (Nat.lt_of_lt_of_le (by have := World.block_lt_of_cell? _ _ hw153_1; first | rwa [add_block] at this | exact this) GW154.out)) | (show (Addr.add _ _).block ≠ _; rw [add_block]; exact Nat.ne_of_lt (Nat.lt_of_lt_of_le (by have := World.block_lt_of_cell? _ _ hw153_1; first | rwa [add_block] at this | exact this) GW154.out)) | (dsimp only; exact Nat.ne_of_lt (Nat.lt_of_lt_of_le (by have := World.block_lt_of_cell? _ _ hw153_1; first | rwa [add_block] at this | exact this) GW154.out))) _).trans (((cell_far (p := ⟨gb154, _, none⟩) (by first | exact Nat.ne_of_lt (Nat.lt_of_lt_of_le (by have := World.block_lt_of_cell? _ _ hw153_1; first | rwa [add_block] at this | exact this) GW154.out) | (rw [add_block]; exact Nat.ne_of_lt (Nat.lt_of_lt_of_le (by have := World.block_lt_of_cell? _ _ hw153_1; first | rwa [add_block] at this | exact this) GW154.out)) | (show (Addr.add _ _).block ≠ _; rw [add_block]; exact Nat.ne_of_lt (Nat.lt_of_lt_of_le (by have := World.block_lt_of_cell? _ _ hw153_1; first | rwa [add_block] at this | exact this) GW154.out)) | (dsimp only; exact Nat.ne_of_lt (Nat.lt_of_lt_of_le (by have := World.block_lt_of_cell? _ _ hw153_1; first | rwa [add_block] at this | exact this) GW154.out))) _).trans (((cell_far (p := ⟨gb154, _, none⟩) (by first | exact Nat.ne_of_lt (Nat.lt_of_lt_of_le (by have := World.block_lt_of_cell? _ _ hw153_1; first | rwa [add_block] at this | exact this) GW154.out) | (rw [add_block]; exact Nat.ne_of_lt (Nat.lt_of_lt_of_le (by have := World.block_lt_of_cell? _ _ hw153_1; first | rwa [add_block] at this | exact this) GW154.out)) | (show (Addr.add _ _).block ≠ _; rw [add_block]; exact Nat.ne_of_lt (Nat.lt_of_lt_of_le (by have := World.block_lt_of_cell? _ _ hw153_1; first | rwa [add_block] at this | exact this) GW154.out)) | (dsimp only; exact Nat.ne_of_lt (Nat.lt_of_lt_of_le (by have := World.block_lt_of_cell? _ _ hw153_1; first | rwa [add_block] at this | exact this) GW154.out))) _).trans (((cell_far (p := ⟨gb154, _, none⟩) (by first | exact Nat.ne_of_lt (Nat.lt_of_lt_of_le (by have := World.block_lt_of_cell? _ _ hw153_1; first | rwa [add_block] at this | exact this) GW154.out) | (rw [add_block]; exact Nat.ne_of_lt (Nat.lt_of_lt_of_le (by have := World.block_lt_of_cell? _ _ hw153_1; first | rwa [add_block] at this | exact this) GW154.out)) | (show (Addr.add _ _).block ≠ _; rw [add_block]; exact Nat.ne_of_lt (Nat.lt_of_lt_of_le (by have := World.block_lt_of_cell? _ _ hw153_1; first | rwa [add_block] at this | exact this) GW154.out)) | (dsimp only; exact Nat.ne_of_lt (Nat.lt_of_lt_of_le (by have := World.block_lt_of_cell? _ _ hw153_1; first | rwa [add_block] at this | exact this) GW154.out))) _).trans (((cell_far (p := ⟨gb154, _, none⟩) (by first | exact Nat.ne_of_lt (Nat.lt_of_lt_of_le (by have := World.block_lt_of_cell? _ _ hw153_1; first | rwa [add_block] at this | exact this) GW154.out) | (rw [add_block]; exact Nat.ne_of_lt (Nat.lt_of_lt_of_le (by have := World.block_lt_of_cell? _ _ hw153_1; first | rwa [add_block] at this | exact this) GW154.out)) | (show (Addr.add _ _).block ≠ _; rw [add_block]; exact Nat.ne_of_lt (Nat.lt_of_lt_of_le (by have := World.block_lt_of_cell? _ _ hw153_1; first | rwa [add_block] at this | exact this) GW154.out)) | (dsimp only; exact Nat.ne_of_lt (Nat.lt_of_lt_of_le (by have := World.block_lt_of_cell? _ _ hw153_1; first | rwa [add_block] at this | exact this) GW154.out))) _).trans (hHeld.2.2.2.2.2.2.1)))))))))), ((cell_far (p := ⟨gb154, _, none⟩) (by first | exact Nat.ne_of_lt (Nat.lt_of_lt_of_le (by have := World.block_lt_of_cell? _ _ hw153_2; first | rwa [add_block] at this | exact this) GW154.out) | (rw [add_block]; exact Nat.ne_of_lt (Nat.lt_of_lt_of_le (by have := World.block_lt_of_cell? _ _ hw153_2; first | rwa [add_block] at this | exact this) GW154.out)) | (show (Addr.add _ _).block ≠ _; rw [add_block]; exact Nat.ne_of_lt (Nat.lt_of_lt_of_le (by have := World.block_lt_of_cell? _ _ hw153_2; first | rwa [add_block] at this | exact this) GW154.out)) | (dsimp only; exact Nat.ne_of_lt (Nat.lt_of_lt_of_le (by have := World.block_lt_of_cell? _ _ hw153_2; first | rwa [add_block] at this | exact this) GW154.out))) _).trans (((cell_far (p := ⟨gb154, _, none⟩) (by first | exact Nat.ne_of_lt (Nat.lt_of_lt_of_le (by have := World.block_lt_of_cell? _ _ hw153_2; first | rwa [add_block] at this | exact this) GW154.out) | (rw [add_block]; exact Nat.ne_of_lt (Nat.lt_of_lt_of_le (by have := World.block_lt_of_cell? _ _ hw153_2; first | rwa [add_block] at this | exact this) GW154.out)) | (show (Addr.add _ _).block ≠ _; rw [add_block]; exact Nat.ne_of_lt (Nat.lt_of_lt_of_le (by have := World.block_lt_of_cell? _ _ hw153_2; first | rwa [add_block] at this | exact this) GW154.out)) | (dsimp only; exact Nat.ne_of_lt (Nat.lt_of_lt_of_le (by have := World.block_lt_of_cell? _ _ hw153_2; first | rwa [add_block] at this | exact this) GW154.out))) _).trans (((cell_far (p := ⟨gb154, _, none⟩) (by first | exact Nat.ne_of_lt (Nat.lt_of_lt_of_le (by have := World.block_lt_of_cell? _ _ hw153_2; first | rwa [add_block] at this | exact this) GW154.out) | (rw [add_block]; exact Nat.ne_of_lt (Nat.lt_of_lt_of_le (by have := World.block_lt_of_cell? _ _ hw153_2; first | rwa [add_block] at this | exact this) GW154.out)) | (show (Addr.add _ _).block ≠ _; rw [add_block]; exact Nat.ne_of_lt (Nat.lt_of_lt_of_le (by have := World.block_lt_of_cell? _ _ hw153_2; first | rwa [add_block] at this | exact this) GW154.out)) | (dsimp only; exact Nat.ne_of_lt (Nat.lt_of_lt_of_le (by have := World.block_lt_of_cell? _ _ hw153_2; first | rwa [add_block] at this | exact this) GW154.out))) _).trans (((cell_far (p := ⟨gb154, _, none⟩) (by first | exact Nat.ne_of_lt (Nat.lt_of_lt_of_le (by have := World.block_lt_of_cell? _ _ hw153_2; first | rwa [add_block] at this | exact this) GW154.out) | (rw [add_block]; exact Nat.ne_of_lt (Nat.lt_of_lt_of_le (by have := World.block_lt_of_cell? _ _ hw153_2; first | rwa [add_block] at this | exact this) GW154.out)) | (show (Addr.add _ _).block ≠ _; rw [add_block]; exact Nat.ne_of_lt (Nat.lt_of_lt_of_le (by have := World.block_lt_of_cell? _ _ hw153_2; first | rwa [add_block] at this | exact this) GW154.out)) | (dsimp only; exact Nat.ne_of_lt (Nat.lt_of_lt_of_le (by have := World.block_lt_of_cell? _ _ hw153_2; first | rwa [add_block] at this | exact this) GW154.out))) _).trans (((cell_far (p := ⟨gb154, _, none⟩) (by first | exact Nat.ne_of_lt (Nat.lt_of_lt_of_le (by have := World.block_lt_of_cell? _ _ hw153_2; first | rwa [add_block] at this | exact this) GW154.out) | (rw [add_block]; exact Nat.ne_of_lt (Nat.lt_of_lt_of_le (by have := World.block_lt_of_cell? _ _ hw153_2; first | rwa [add_block] at this | exact this) GW154.out)) | (show (Addr.add _ _).block ≠ _; rw [add_block]; exact Nat.ne_of_lt (Nat.lt_of_lt_of_le (by have := World.block_lt_of_cell? _ _ hw153_2; first | rwa [add_block] at this | exact this) GW154.out)) | (dsimp only; exact Nat.ne_of_lt (Nat.lt_of_lt_of_le (by have := World.block_lt_of_cell? _ _ hw153_2; first | rwa [add_block] at this | exact this) GW154.out))) _).trans (hHeld.2.2.2.2.2.2.2.1)))))))))), ((cell_far (p := ⟨gb154, _, none⟩) (by first | exact Nat.ne_of_lt (Nat.lt_of_lt_of_le (by have := World.block_lt_of_cell? _ _ hw153_3; first | rwa [add_block] at this | exact this) GW154.out) | (rw [add_block]; exact Nat.ne_of_lt (Nat.lt_of_lt_of_le (by have := World.block_lt_of_cell? _ _ hw153_3; first | rwa [add_block] at this | exact this) GW154.out)) | (show (Addr.add _ _).block ≠ _; rw [add_block]; exact Nat.ne_of_lt (Nat.lt_of_lt_of_le (by have := World.block_lt_of_cell? _ _ hw153_3; first | rwa [add_block] at this | exact this) GW154.out)) | (dsimp only; exact Nat.ne_of_lt (Nat.lt_of_lt_of_le (by have := World.block_lt_of_cell? _ _ hw153_3; first | rwa [add_block] at this | exact this) GW154.out))) _).trans (((cell_far (p := ⟨gb154, _, none⟩) (by first | exact Nat.ne_of_lt (Nat.lt_of_lt_of_le (by have := World.block_lt_of_cell? _ _ hw153_3; first | rwa [add_block] at this | exact this) GW154.out) | (rw [add_block]; exact Nat.ne_of_lt (Nat.lt_of_lt_of_le (by have := World.block_lt_of_cell? _ _ hw153_3; first | rwa [add_block] at this | exact this) GW154.out)) | (show (Addr.add _ _).block ≠ _; rw [add_block]; exact Nat.ne_of_lt (Nat.lt_of_lt_of_le (by have := World.block_lt_of_cell? _ _ hw153_3; first | rwa [add_block] at this | exact this) GW154.out)) | (dsimp only; exact Nat.ne_of_lt (Nat.lt_of_lt_of_le (by have := World.block_lt_of_cell? _ _ hw153_3; first | rwa [add_block] at this | exact this) GW154.out))) _).trans (((cell_far (p := ⟨gb154, _, none⟩) (by first | exact Nat.ne_of_lt (Nat.lt_of_lt_of_le (by have := World.block_lt_of_cell? _ _ hw153_3; first | rwa [add_block] at this | exact this) GW154.out) | (rw [add_block]; exact Nat.ne_of_lt (Nat.lt_of_lt_of_le (by have := World.block_lt_of_cell? _ _ hw153_3; first | rwa [add_block] at this | exact this) GW154.out)) | (show (Addr.add _ _).block ≠ _; rw [add_block]; exact Nat.ne_of_lt (Nat.lt_of_lt_of_le (by have := World.block_lt_of_cell? _ _ hw153_3; first | rwa [add_block] at this | exact this) GW154.out)) | (dsimp only; exact Nat.ne_of_lt (Nat.lt_of_lt_of_le (by have := World.block_lt_of_cell? _ _ hw153_3; first | rwa [add_block] at this | exact this) GW154.out))) _).trans (((cell_far (p := ⟨gb154, _, none⟩) (by first | exact Nat.ne_of_lt (Nat.lt_of_lt_of_le (by have := World.block_lt_of_cell? _ _ hw153_3; first | rwa [add_block] at this | exact this) GW154.out) | (rw [add_block]; exact Nat.ne_of_lt (Nat.lt_of_lt_of_le (by have := World.block_lt_of_cell? _ _ hw153_3; first | rwa [add_block] at this | exact this) GW154.out)) | (show (Addr.add _ _).block ≠ _; rw [add_block]; exact Nat.ne_of_lt (Nat.lt_of_lt_of_le (by have := World.block_lt_of_cell? _ _ hw153_3; first | rwa [add_block] at this | exact this) GW154.out)) | (dsimp only; exact Nat.ne_of_lt (Nat.lt_of_lt_of_le (by have := World.block_lt_of_cell? _ _ hw153_3; first | rwa [add_block] at this | exact this) GW154.out))) _).trans (((cell_far (p := ⟨gb154, _, none⟩) (by first | exact Nat.ne_of_lt (Nat.lt_of_lt_of_le (by have := World.block_lt_of_cell? _ _ hw153_3; first | rwa [add_block] at this | exact this) GW154.out) | (rw [add_block]; exact Nat.ne_of_lt (Nat.lt_of_lt_of_le (by have := World.block_lt_of_cell? _ _ hw153_3; first | rwa [add_block] at this | exact this) GW154.out)) | (show (Addr.add _ _).block ≠ _; rw [add_block]; exact Nat.ne_of_lt (Nat.lt_of_lt_of_le (by have := World.block_lt_of_cell? _ _ hw153_3; first | rwa [add_block] at this | exact this) GW154.out)) | (dsimp only; exact Nat.ne_of_lt (Nat.lt_of_lt_of_le (by have := World.block_lt_of_cell? _ _ hw153_3; first | rwa [add_block] at this | exact this) GW154.out))) _).trans (hHeld.2.2.2.2.2.2.2.2.1)))))))))), ((cell_far (p := ⟨gb154, _, none⟩) (by first | exact Nat.ne_of_lt (Nat.lt_of_lt_of_le (by have := World.block_lt_of_cell? _ _ hw153_4; first | rwa [add_block] at this | exact this) GW154.out) | (rw [add_block]; exact Nat.ne_of_lt (Nat.lt_of_lt_of_le (by have := World.block_lt_of_cell? _ _ hw153_4; first | rwa [add_block] at this | exact this) GW154.out)) | (show (Addr.add _ _).block ≠ _; rw [add_block]; exact Nat.ne_of_lt (Nat.lt_of_lt_of_le (by have := World.block_lt_of_cell? _ _ hw153_4; first | rwa [add_block] at this | exact this) GW154.out)) | (dsimp only; exact Nat.ne_of_lt (Nat.lt_of_lt_of_le (by have := World.block_lt_of_cell? _ _ hw153_4; first | rwa [add_block] at this | exact this) GW154.out))) _).trans (((cell_far (p := ⟨gb154, _, none⟩) (by first | exact Nat.ne_of_lt (Nat.lt_of_lt_of_le (by have := World.block_lt_of_cell? _ _ hw153_4; first | rwa [add_block] at this | exact this) GW154.out) | (rw [add_block]; exact Nat.ne_of_lt (Nat.lt_of_lt_of_le (by have := World.block_lt_of_cell? _ _ hw153_4; first | rwa [add_block] at this | exact this) GW154.out)) | (show (Addr.add _ _).block ≠ _; rw [add_block]; exact Nat.ne_of_lt (Nat.lt_of_lt_of_le (by have := World.block_lt_of_cell? _ _ hw153_4; first | rwa [add_block] at this | exact this) GW154.out)) | (dsimp only; exact Nat.ne_of_lt (Nat.lt_of_lt_of_le (by have := World.block_lt_of_cell? _ _ hw153_4; first | rwa [add_block] at this | exact this) GW154.out))) _).trans (((cell_far (p := ⟨gb154, _, none⟩) (by first | exact Nat.ne_of_lt (Nat.lt_of_lt_of_le (by have := World.block_lt_of_cell? _ _ hw153_4; first | rwa [add_block] at this | exact this) GW154.out) | (rw [add_block]; exact Nat.ne_of_lt (Nat.lt_of_lt_of_le (by have := World.block_lt_of_cell? _ _ hw153_4; first | rwa [add_block] at this | exact this) GW154.out)) | (show (Addr.add _ _).block ≠ _; rw [add_block]; exact Nat.ne_of_lt (Nat.lt_of_lt_of_le (by have := World.block_lt_of_cell? _ _ hw153_4; first | rwa [add_block] at this | exact this) GW154.out)) | (dsimp only; exact Nat.ne_of_lt (Nat.lt_of_lt_of_le (by have := World.block_lt_of_cell? _ _ hw153_4; first | rwa [add_block] at this | exact this) GW154.out))) _).trans (((cell_far (p := ⟨gb154, _, none⟩) (by first | exact Nat.ne_of_lt (Nat.lt_of_lt_of_le (by have := World.block_lt_of_cell? _ _ hw153_4; first | rwa [add_block] at this | exact this) GW154.out) | (rw [add_block]; exact Nat.ne_of_lt (Nat.lt_of_lt_of_le (by have := World.block_lt_of_cell? _ _ hw153_4; first | rwa [add_block] at this | exact this) GW154.out)) | (show (Addr.add _ _).block ≠ _; rw [add_block]; exact Nat.ne_of_lt (Nat.lt_of_lt_of_le (by have := World.block_lt_of_cell? _ _ hw153_4; first | rwa [add_block] at this | exact this) GW154.out)) | (dsimp only; exact Nat.ne_of_lt (Nat.lt_of_lt_of_le (by have := World.block_lt_of_cell? _ _ hw153_4; first | rwa [add_block] at this | exact this) GW154.out))) _).trans (((cell_far (p := ⟨gb154, _, none⟩) (by first | exact Nat.ne_of_lt (Nat.lt_of_lt_of_le (by have := World.block_lt_of_cell? _ _ hw153_4; first | rwa [add_block] at this | exact this) GW154.out) | (rw [add_block]; exact Nat.ne_of_lt (Nat.lt_of_lt_of_le (by have := World.block_lt_of_cell? _ _ hw153_4; first | rwa [add_block] at this | exact this) GW154.out)) | (show (Addr.add _ _).block ≠ _; rw [add_block]; exact Nat.ne_of_lt (Nat.lt_of_lt_of_le (by have := World.block_lt_of_cell? _ _ hw153_4; first | rwa [add_block] at this | exact this) GW154.out)) | (dsimp only; exact Nat.ne_of_lt (Nat.lt_of_lt_of_le (by have := World.block_lt_of_cell? _ _ hw153_4; first | rwa [add_block] at this | exact this) GW154.out))) _).trans (hHeld.2.2.2.2.2.2.2.2.2))))))))))⟩ (fun hHeld => ?_)
              clear hK K
              refine one_ (i := 11) (N := none) #[true, true, true, true, true, true, true, true, true, true, true, true] rfl rfl (one_of HT_.out (by kernel_rfl)) (by decide) (fun K hK => ?_)
              have hs17 : w11.cell? ⟨gb155, 0, none⟩ = some (.int .i64 0) := (blk_cell BK155.out 0).trans rfl
              have hfs17 := blk_frozen BK155.out 0
              have hns17_0 := NB154_155.out
              have hms17_0 := NB155_154.out
              have hs18 : w11.cell? ⟨gb155, 1, none⟩ = some (.string (⟨#[]⟩ : ByteArray)) := (blk_cell BK155.out 1).trans rfl
              have hfs18 := blk_frozen BK155.out 1
              have hns18_0 := NB154_155.out
              have hms18_0 := NB155_154.out
              have hs19 : w11.cell? ⟨gb155, 2, none⟩ = some (.int .i64 0) := (blk_cell BK155.out 2).trans rfl
              have hfs19 := blk_frozen BK155.out 2
              have hns19_0 := NB154_155.out
              have hms19_0 := NB155_154.out
              have hs20 : w11.cell? ⟨gb155, 3, none⟩ = some (.slice none 0 0) := (blk_cell BK155.out 3).trans rfl
              have hfs20 := blk_frozen BK155.out 3
              have hns20_0 := NB154_155.out
              have hms20_0 := NB155_154.out
              have hs21 : w11.cell? ⟨gb155, 4, none⟩ = some (.bool false) := (blk_cell BK155.out 4).trans rfl
              have hfs21 := blk_frozen BK155.out 4
              have hns21_0 := NB154_155.out
              have hms21_0 := NB155_154.out
              refine skip_ (w1 := ?_) (by rfl) rfl ?_ ?_
              rotate_left
              · go_simp
                rfl
              refine hK.out _ _ ⟨((cell_far (p := ⟨gb155, _, none⟩) (by first | exact Nat.ne_of_lt (Nat.lt_of_lt_of_le (by have := World.block_lt_of_cell? _ _ hw152_0; first | rwa [add_block] at this | exact this) GW155.out) | (rw [add_block]; exact Nat.ne_of_lt (Nat.lt_of_lt_of_le (by have := World.block_lt_of_cell? _ _ hw152_0; first | rwa [add_block] at this | exact this) GW155.out)) | (show (Addr.add _ _).block ≠ _; rw [add_block]; exact Nat.ne_of_lt (Nat.lt_of_lt_of_le (by have := World.block_lt_of_cell? _ _ hw152_0; first | rwa [add_block] at this | exact this) GW155.out)) | (dsimp only; exact Nat.ne_of_lt (Nat.lt_of_lt_of_le (by have := World.block_lt_of_cell? _ _ hw152_0; first | rwa [add_block] at this | exact this) GW155.out))) _).trans (((cell_far (p := ⟨gb155, _, none⟩) (by first | exact Nat.ne_of_lt (Nat.lt_of_lt_of_le (by have := World.block_lt_of_cell? _ _ hw152_0; first | rwa [add_block] at this | exact this) GW155.out) | (rw [add_block]; exact Nat.ne_of_lt (Nat.lt_of_lt_of_le (by have := World.block_lt_of_cell? _ _ hw152_0; first | rwa [add_block] at this | exact this) GW155.out)) | (show (Addr.add _ _).block ≠ _; rw [add_block]; exact Nat.ne_of_lt (Nat.lt_of_lt_of_le (by have := World.block_lt_of_cell? _ _ hw152_0; first | rwa [add_block] at this | exact this) GW155.out)) | (dsimp only; exact Nat.ne_of_lt (Nat.lt_of_lt_of_le (by have := World.block_lt_of_cell? _ _ hw152_0; first | rwa [add_block] at this | exact this) GW155.out))) _).trans (((cell_far (p := ⟨gb155, _, none⟩) (by first | exact Nat.ne_of_lt (Nat.lt_of_lt_of_le (by have := World.block_lt_of_cell? _ _ hw152_0; first | rwa [add_block] at this | exact this) GW155.out) | (rw [add_block]; exact Nat.ne_of_lt (Nat.lt_of_lt_of_le (by have := World.block_lt_of_cell? _ _ hw152_0; first | rwa [add_block] at this | exact this) GW155.out)) | (show (Addr.add _ _).block ≠ _; rw [add_block]; exact Nat.ne_of_lt (Nat.lt_of_lt_of_le (by have := World.block_lt_of_cell? _ _ hw152_0; first | rwa [add_block] at this | exact this) GW155.out)) | (dsimp only; exact Nat.ne_of_lt (Nat.lt_of_lt_of_le (by have := World.block_lt_of_cell? _ _ hw152_0; first | rwa [add_block] at this | exact this) GW155.out))) _).trans (((cell_far (p := ⟨gb155, _, none⟩) (by first | exact Nat.ne_of_lt (Nat.lt_of_lt_of_le (by have := World.block_lt_of_cell? _ _ hw152_0; first | rwa [add_block] at this | exact this) GW155.out) | (rw [add_block]; exact Nat.ne_of_lt (Nat.lt_of_lt_of_le (by have := World.block_lt_of_cell? _ _ hw152_0; first | rwa [add_block] at this | exact this) GW155.out)) | (show (Addr.add _ _).block ≠ _; rw [add_block]; exact Nat.ne_of_lt (Nat.lt_of_lt_of_le (by have := World.block_lt_of_cell? _ _ hw152_0; first | rwa [add_block] at this | exact this) GW155.out)) | (dsimp only; exact Nat.ne_of_lt (Nat.lt_of_lt_of_le (by have := World.block_lt_of_cell? _ _ hw152_0; first | rwa [add_block] at this | exact this) GW155.out))) _).trans (((cell_far (p := ⟨gb155, _, none⟩) (by first | exact Nat.ne_of_lt (Nat.lt_of_lt_of_le (by have := World.block_lt_of_cell? _ _ hw152_0; first | rwa [add_block] at this | exact this) GW155.out) | (rw [add_block]; exact Nat.ne_of_lt (Nat.lt_of_lt_of_le (by have := World.block_lt_of_cell? _ _ hw152_0; first | rwa [add_block] at this | exact this) GW155.out)) | (show (Addr.add _ _).block ≠ _; rw [add_block]; exact Nat.ne_of_lt (Nat.lt_of_lt_of_le (by have := World.block_lt_of_cell? _ _ hw152_0; first | rwa [add_block] at this | exact this) GW155.out)) | (dsimp only; exact Nat.ne_of_lt (Nat.lt_of_lt_of_le (by have := World.block_lt_of_cell? _ _ hw152_0; first | rwa [add_block] at this | exact this) GW155.out))) _).trans (hHeld.1)))))))))), ((cell_far (p := ⟨gb155, _, none⟩) (by first | exact Nat.ne_of_lt (Nat.lt_of_lt_of_le (by have := World.block_lt_of_cell? _ _ hw152_1; first | rwa [add_block] at this | exact this) GW155.out) | (rw [add_block]; exact Nat.ne_of_lt (Nat.lt_of_lt_of_le (by have := World.block_lt_of_cell? _ _ hw152_1; first | rwa [add_block] at this | exact this) GW155.out)) | (show (Addr.add _ _).block ≠ _; rw [add_block]; exact Nat.ne_of_lt (Nat.lt_of_lt_of_le (by have := World.block_lt_of_cell? _ _ hw152_1; first | rwa [add_block] at this | exact this) GW155.out)) | (dsimp only; exact Nat.ne_of_lt (Nat.lt_of_lt_of_le (by have := World.block_lt_of_cell? _ _ hw152_1; first | rwa [add_block] at this | exact this) GW155.out))) _).trans (((cell_far (p := ⟨gb155, _, none⟩) (by first | exact Nat.ne_of_lt (Nat.lt_of_lt_of_le (by have := World.block_lt_of_cell? _ _ hw152_1; first | rwa [add_block] at this | exact this) GW155.out) | (rw [add_block]; exact Nat.ne_of_lt (Nat.lt_of_lt_of_le (by have := World.block_lt_of_cell? _ _ hw152_1; first | rwa [add_block] at this | exact this) GW155.out)) | (show (Addr.add _ _).block ≠ _; rw [add_block]; exact Nat.ne_of_lt (Nat.lt_of_lt_of_le (by have := World.block_lt_of_cell? _ _ hw152_1; first | rwa [add_block] at this | exact this) GW155.out)) | (dsimp only; exact Nat.ne_of_lt (Nat.lt_of_lt_of_le (by have := World.block_lt_of_cell? _ _ hw152_1; first | rwa [add_block] at this | exact this) GW155.out))) _).trans (((cell_far (p := ⟨gb155, _, none⟩) (by first | exact Nat.ne_of_lt (Nat.lt_of_lt_of_le (by have := World.block_lt_of_cell? _ _ hw152_1; first | rwa [add_block] at this | exact this) GW155.out) | (rw [add_block]; exact Nat.ne_of_lt (Nat.lt_of_lt_of_le (by have := World.block_lt_of_cell? _ _ hw152_1; first | rwa [add_block] at this | exact this) GW155.out)) | (show (Addr.add _ _).block ≠ _; rw [add_block]; exact Nat.ne_of_lt (Nat.lt_of_lt_of_le (by have := World.block_lt_of_cell? _ _ hw152_1; first | rwa [add_block] at this | exact this) GW155.out)) | (dsimp only; exact Nat.ne_of_lt (Nat.lt_of_lt_of_le (by have := World.block_lt_of_cell? _ _ hw152_1; first | rwa [add_block] at this | exact this) GW155.out))) _).trans (((cell_far (p := ⟨gb155, _, none⟩) (by first | exact Nat.ne_of_lt (Nat.lt_of_lt_of_le (by have := World.block_lt_of_cell? _ _ hw152_1; first | rwa [add_block] at this | exact this) GW155.out) | (rw [add_block]; exact Nat.ne_of_lt (Nat.lt_of_lt_of_le (by have := World.block_lt_of_cell? _ _ hw152_1; first | rwa [add_block] at this | exact this) GW155.out)) | (show (Addr.add _ _).block ≠ _; rw [add_block]; exact Nat.ne_of_lt (Nat.lt_of_lt_of_le (by have := World.block_lt_of_cell? _ _ hw152_1; first | rwa [add_block] at this | exact this) GW155.out)) | (dsimp only; exact Nat.ne_of_lt (Nat.lt_of_lt_of_le (by have := World.block_lt_of_cell? _ _ hw152_1; first | rwa [add_block] at this | exact this) GW155.out))) _).trans (((cell_far (p := ⟨gb155, _, none⟩) (by first | exact Nat.ne_of_lt (Nat.lt_of_lt_of_le (by have := World.block_lt_of_cell? _ _ hw152_1; first | rwa [add_block] at this | exact this) GW155.out) | (rw [add_block]; exact Nat.ne_of_lt (Nat.lt_of_lt_of_le (by have := World.block_lt_of_cell? _ _ hw152_1; first | rwa [add_block] at this | exact this) GW155.out)) | (show (Addr.add _ _).block ≠ _; rw [add_block]; exact Nat.ne_of_lt (Nat.lt_of_lt_of_le (by have := World.block_lt_of_cell? _ _ hw152_1; first | rwa [add_block] at this | exact this) GW155.out)) | (dsimp only; exact Nat.ne_of_lt (Nat.lt_of_lt_of_le (by have := World.block_lt_of_cell? _ _ hw152_1; first | rwa [add_block] at this | exact this) GW155.out))) _).trans (hHeld.2.1)))))))))), ((cell_far (p := ⟨gb155, _, none⟩) (by first | exact Nat.ne_of_lt (Nat.lt_of_lt_of_le (by have := World.block_lt_of_cell? _ _ hw152_2; first | rwa [add_block] at this | exact this) GW155.out) | (rw [add_block]; exact Nat.ne_of_lt (Nat.lt_of_lt_of_le (by have := World.block_lt_of_cell? _ _ hw152_2; first | rwa [add_block] at this | exact this) GW155.out)) | (show (Addr.add _ _).block ≠ _; rw [add_block]; exact Nat.ne_of_lt (Nat.lt_of_lt_of_le (by have := World.block_lt_of_cell? _ _ hw152_2; first | rwa [add_block] at this | exact this) GW155.out)) | (dsimp only; exact Nat.ne_of_lt (Nat.lt_of_lt_of_le (by have := World.block_lt_of_cell? _ _ hw152_2; first | rwa [add_block] at this | exact this) GW155.out))) _).trans (((cell_far (p := ⟨gb155, _, none⟩) (by first | exact Nat.ne_of_lt (Nat.lt_of_lt_of_le (by have := World.block_lt_of_cell? _ _ hw152_2; first | rwa [add_block] at this | exact this) GW155.out) | (rw [add_block]; exact Nat.ne_of_lt (Nat.lt_of_lt_of_le (by have := World.block_lt_of_cell? _ _ hw152_2; first | rwa [add_block] at this | exact this) GW155.out)) | (show (Addr.add _ _).block ≠ _; rw [add_block]; exact Nat.ne_of_lt (Nat.lt_of_lt_of_le (by have := World.block_lt_of_cell? _ _ hw152_2; first | rwa [add_block] at this | exact this) GW155.out)) | (dsimp only; exact Nat.ne_of_lt (Nat.lt_of_lt_of_le (by have := World.block_lt_of_cell? _ _ hw152_2; first | rwa [add_block] at this | exact this) GW155.out))) _).trans (((cell_far (p := ⟨gb155, _, none⟩) (by first | exact Nat.ne_of_lt (Nat.lt_of_lt_of_le (by have := World.block_lt_of_cell? _ _ hw152_2; first | rwa [add_block] at this | exact this) GW155.out) | (rw [add_block]; exact Nat.ne_of_lt (Nat.lt_of_lt_of_le (by have := World.block_lt_of_cell? _ _ hw152_2; first | rwa [add_block] at this | exact this) GW155.out)) | (show (Addr.add _ _).block ≠ _; rw [add_block]; exact Nat.ne_of_lt (Nat.lt_of_lt_of_le (by have := World.block_lt_of_cell? _ _ hw152_2; first | rwa [add_block] at this | exact this) GW155.out)) | (dsimp only; exact Nat.ne_of_lt (Nat.lt_of_lt_of_le (by have := World.block_lt_of_cell? _ _ hw152_2; first | rwa [add_block] at this | exact this) GW155.out))) _).trans (((cell_far (p := ⟨gb155, _, none⟩) (by first | exact Nat.ne_of_lt (Nat.lt_of_lt_of_le (by have := World.block_lt_of_cell? _ _ hw152_2; first | rwa [add_block] at this | exact this) GW155.out) | (rw [add_block]; exact Nat.ne_of_lt (Nat.lt_of_lt_of_le (by have := World.block_lt_of_cell? _ _ hw152_2; first | rwa [add_block] at this | exact this) GW155.out)) | (show (Addr.add _ _).block ≠ _; rw [add_block]; exact Nat.ne_of_lt (Nat.lt_of_lt_of_le (by have := World.block_lt_of_cell? _ _ hw152_2; first | rwa [add_block] at this | exact this) GW155.out)) | (dsimp only; exact Nat.ne_of_lt (Nat.lt_of_lt_of_le (by have := World.block_lt_of_cell? _ _ hw152_2; first | rwa [add_block] at this | exact this) GW155.out))) _).trans (((cell_far (p := ⟨gb155, _, none⟩) (by first | exact Nat.ne_of_lt (Nat.lt_of_lt_of_le (by have := World.block_lt_of_cell? _ _ hw152_2; first | rwa [add_block] at this | exact this) GW155.out) | (rw [add_block]; exact Nat.ne_of_lt (Nat.lt_of_lt_of_le (by have := World.block_lt_of_cell? _ _ hw152_2; first | rwa [add_block] at this | exact this) GW155.out)) | (show (Addr.add _ _).block ≠ _; rw [add_block]; exact Nat.ne_of_lt (Nat.lt_of_lt_of_le (by have := World.block_lt_of_cell? _ _ hw152_2; first | rwa [add_block] at this | exact this) GW155.out)) | (dsimp only; exact Nat.ne_of_lt (Nat.lt_of_lt_of_le (by have := World.block_lt_of_cell? _ _ hw152_2; first | rwa [add_block] at this | exact this) GW155.out))) _).trans (hHeld.2.2.1)))))))))), ((cell_far (p := ⟨gb155, _, none⟩) (by first | exact Nat.ne_of_lt (Nat.lt_of_lt_of_le (by have := World.block_lt_of_cell? _ _ hw152_3; first | rwa [add_block] at this | exact this) GW155.out) | (rw [add_block]; exact Nat.ne_of_lt (Nat.lt_of_lt_of_le (by have := World.block_lt_of_cell? _ _ hw152_3; first | rwa [add_block] at this | exact this) GW155.out)) | (show (Addr.add _ _).block ≠ _; rw [add_block]; exact Nat.ne_of_lt (Nat.lt_of_lt_of_le (by have := World.block_lt_of_cell? _ _ hw152_3; first | rwa [add_block] at this | exact this) GW155.out)) | (dsimp only; exact Nat.ne_of_lt (Nat.lt_of_lt_of_le (by have := World.block_lt_of_cell? _ _ hw152_3; first | rwa [add_block] at this | exact this) GW155.out))) _).trans (((cell_far (p := ⟨gb155, _, none⟩) (by first | exact Nat.ne_of_lt (Nat.lt_of_lt_of_le (by have := World.block_lt_of_cell? _ _ hw152_3; first | rwa [add_block] at this | exact this) GW155.out) | (rw [add_block]; exact Nat.ne_of_lt (Nat.lt_of_lt_of_le (by have := World.block_lt_of_cell? _ _ hw152_3; first | rwa [add_block] at this | exact this) GW155.out)) | (show (Addr.add _ _).block ≠ _; rw [add_block]; exact Nat.ne_of_lt (Nat.lt_of_lt_of_le (by have := World.block_lt_of_cell? _ _ hw152_3; first | rwa [add_block] at this | exact this) GW155.out)) | (dsimp only; exact Nat.ne_of_lt (Nat.lt_of_lt_of_le (by have := World.block_lt_of_cell? _ _ hw152_3; first | rwa [add_block] at this | exact this) GW155.out))) _).trans (((cell_far (p := ⟨gb155, _, none⟩) (by first | exact Nat.ne_of_lt (Nat.lt_of_lt_of_le (by have := World.block_lt_of_cell? _ _ hw152_3; first | rwa [add_block] at this | exact this) GW155.out) | (rw [add_block]; exact Nat.ne_of_lt (Nat.lt_of_lt_of_le (by have := World.block_lt_of_cell? _ _ hw152_3; first | rwa [add_block] at this | exact this) GW155.out)) | (show (Addr.add _ _).block ≠ _; rw [add_block]; exact Nat.ne_of_lt (Nat.lt_of_lt_of_le (by have := World.block_lt_of_cell? _ _ hw152_3; first | rwa [add_block] at this | exact this) GW155.out)) | (dsimp only; exact Nat.ne_of_lt (Nat.lt_of_lt_of_le (by have := World.block_lt_of_cell? _ _ hw152_3; first | rwa [add_block] at this | exact this) GW155.out))) _).trans (((cell_far (p := ⟨gb155, _, none⟩) (by first | exact Nat.ne_of_lt (Nat.lt_of_lt_of_le (by have := World.block_lt_of_cell? _ _ hw152_3; first | rwa [add_block] at this | exact this) GW155.out) | (rw [add_block]; exact Nat.ne_of_lt (Nat.lt_of_lt_of_le (by have := World.block_lt_of_cell? _ _ hw152_3; first | rwa [add_block] at this | exact this) GW155.out)) | (show (Addr.add _ _).block ≠ _; rw [add_block]; exact Nat.ne_of_lt (Nat.lt_of_lt_of_le (by have := World.block_lt_of_cell? _ _ hw152_3; first | rwa [add_block] at this | exact this) GW155.out)) | (dsimp only; exact Nat.ne_of_lt (Nat.lt_of_lt_of_le (by have := World.block_lt_of_cell? _ _ hw152_3; first | rwa [add_block] at this | exact this) GW155.out))) _).trans (((cell_far (p := ⟨gb155, _, none⟩) (by first | exact Nat.ne_of_lt (Nat.lt_of_lt_of_le (by have := World.block_lt_of_cell? _ _ hw152_3; first | rwa [add_block] at this | exact this) GW155.out) | (rw [add_block]; exact Nat.ne_of_lt (Nat.lt_of_lt_of_le (by have := World.block_lt_of_cell? _ _ hw152_3; first | rwa [add_block] at this | exact this) GW155.out)) | (show (Addr.add _ _).block ≠ _; rw [add_block]; exact Nat.ne_of_lt (Nat.lt_of_lt_of_le (by have := World.block_lt_of_cell? _ _ hw152_3; first | rwa [add_block] at this | exact this) GW155.out)) | (dsimp only; exact Nat.ne_of_lt (Nat.lt_of_lt_of_le (by have := World.block_lt_of_cell? _ _ hw152_3; first | rwa [add_block] at this | exact this) GW155.out))) _).trans (hHeld.2.2.2.1)))))))))), ((cell_far (p := ⟨gb155, _, none⟩) (by first | exact Nat.ne_of_lt (Nat.lt_of_lt_of_le (by have := World.block_lt_of_cell? _ _ hw152_4; first | rwa [add_block] at this | exact this) GW155.out) | (rw [add_block]; exact Nat.ne_of_lt (Nat.lt_of_lt_of_le (by have := World.block_lt_of_cell? _ _ hw152_4; first | rwa [add_block] at this | exact this) GW155.out)) | (show (Addr.add _ _).block ≠ _; rw [add_block]; exact Nat.ne_of_lt (Nat.lt_of_lt_of_le (by have := World.block_lt_of_cell? _ _ hw152_4; first | rwa [add_block] at this | exact this) GW155.out)) | (dsimp only; exact Nat.ne_of_lt (Nat.lt_of_lt_of_le (by have := World.block_lt_of_cell? _ _ hw152_4; first | rwa [add_block] at this | exact this) GW155.out))) _).trans (((cell_far (p := ⟨gb155, _, none⟩) (by first | exact Nat.ne_of_lt (Nat.lt_of_lt_of_le (by have := World.block_lt_of_cell? _ _ hw152_4; first | rwa [add_block] at this | exact this) GW155.out) | (rw [add_block]; exact Nat.ne_of_lt (Nat.lt_of_lt_of_le (by have := World.block_lt_of_cell? _ _ hw152_4; first | rwa [add_block] at this | exact this) GW155.out)) | (show (Addr.add _ _).block ≠ _; rw [add_block]; exact Nat.ne_of_lt (Nat.lt_of_lt_of_le (by have := World.block_lt_of_cell? _ _ hw152_4; first | rwa [add_block] at this | exact this) GW155.out)) | (dsimp only; exact Nat.ne_of_lt (Nat.lt_of_lt_of_le (by have := World.block_lt_of_cell? _ _ hw152_4; first | rwa [add_block] at this | exact this) GW155.out))) _).trans (((cell_far (p := ⟨gb155, _, none⟩) (by first | exact Nat.ne_of_lt (Nat.lt_of_lt_of_le (by have := World.block_lt_of_cell? _ _ hw152_4; first | rwa [add_block] at this | exact this) GW155.out) | (rw [add_block]; exact Nat.ne_of_lt (Nat.lt_of_lt_of_le (by have := World.block_lt_of_cell? _ _ hw152_4; first | rwa [add_block] at this | exact this) GW155.out)) | (show (Addr.add _ _).block ≠ _; rw [add_block]; exact Nat.ne_of_lt (Nat.lt_of_lt_of_le (by have := World.block_lt_of_cell? _ _ hw152_4; first | rwa [add_block] at this | exact this) GW155.out)) | (dsimp only; exact Nat.ne_of_lt (Nat.lt_of_lt_of_le (by have := World.block_lt_of_cell? _ _ hw152_4; first | rwa [add_block] at this | exact this) GW155.out))) _).trans (((cell_far (p := ⟨gb155, _, none⟩) (by first | exact Nat.ne_of_lt (Nat.lt_of_lt_of_le (by have := World.block_lt_of_cell? _ _ hw152_4; first | rwa [add_block] at this | exact this) GW155.out) | (rw [add_block]; exact Nat.ne_of_lt (Nat.lt_of_lt_of_le (by have := World.block_lt_of_cell? _ _ hw152_4; first | rwa [add_block] at this | exact this) GW155.out)) | (show (Addr.add _ _).block ≠ _; rw [add_block]; exact Nat.ne_of_lt (Nat.lt_of_lt_of_le (by have := World.block_lt_of_cell? _ _ hw152_4; first | rwa [add_block] at this | exact this) GW155.out)) | (dsimp only; exact Nat.ne_of_lt (Nat.lt_of_lt_of_le (by have := World.block_lt_of_cell? _ _ hw152_4; first | rwa [add_block] at this | exact this) GW155.out))) _).trans (((cell_far (p := ⟨gb155, _, none⟩) (by first | exact Nat.ne_of_lt (Nat.lt_of_lt_of_le (by have := World.block_lt_of_cell? _ _ hw152_4; first | rwa [add_block] at this | exact this) GW155.out) | (rw [add_block]; exact Nat.ne_of_lt (Nat.lt_of_lt_of_le (by have := World.block_lt_of_cell? _ _ hw152_4; first | rwa [add_block] at this | exact this) GW155.out)) | (show (Addr.add _ _).block ≠ _; rw [add_block]; exact Nat.ne_of_lt (Nat.lt_of_lt_of_le (by have := World.block_lt_of_cell? _ _ hw152_4; first | rwa [add_block] at this | exact this) GW155.out)) | (dsimp only; exact Nat.ne_of_lt (Nat.lt_of_lt_of_le (by have := World.block_lt_of_cell? _ _ hw152_4; first | rwa [add_block] at this | exact this) GW155.out))) _).trans (hHeld.2.2.2.2.1)))))))))), ((cell_far (p := ⟨gb155, _, none⟩) (by first | exact Nat.ne_of_lt (Nat.lt_of_lt_of_le (by have := World.block_lt_of_cell? _ _ hw153_0; first | rwa [add_block] at this | exact this) GW155.out) | (rw [add_block]; exact Nat.ne_of_lt (Nat.lt_of_lt_of_le (by have := World.block_lt_of_cell? _ _ hw153_0; first | rwa [add_block] at this | exact this) GW155.out)) | (show (Addr.add _ _).block ≠ _; rw [add_block]; exact Nat.ne_of_lt (Nat.lt_of_lt_of_le (by have := World.block_lt_of_cell? _ _ hw153_0; first | rwa [add_block] at this | exact this) GW155.out)) | (dsimp only; exact Nat.ne_of_lt (Nat.lt_of_lt_of_le (by have := World.block_lt_of_cell? _ _ hw153_0; first | rwa [add_block] at this | exact this) GW155.out))) _).trans (((cell_far (p := ⟨gb155, _, none⟩) (by first | exact Nat.ne_of_lt (Nat.lt_of_lt_of_le (by have := World.block_lt_of_cell? _ _ hw153_0; first | rwa [add_block] at this | exact this) GW155.out) | (rw [add_block]; exact Nat.ne_of_lt (Nat.lt_of_lt_of_le (by have := World.block_lt_of_cell? _ _ hw153_0; first | rwa [add_block] at this | exact this) GW155.out)) | (show (Addr.add _ _).block ≠ _; rw [add_block]; exact Nat.ne_of_lt (Nat.lt_of_lt_of_le (by have := World.block_lt_of_cell? _ _ hw153_0; first | rwa [add_block] at this | exact this) GW155.out)) | (dsimp only; exact Nat.ne_of_lt (Nat.lt_of_lt_of_le (by have := World.block_lt_of_cell? _ _ hw153_0; first | rwa [add_block] at this | exact this) GW155.out))) _).trans (((cell_far (p := ⟨gb155, _, none⟩) (by first | exact Nat.ne_of_lt (Nat.lt_of_lt_of_le (by have := World.block_lt_of_cell? _ _ hw153_0; first | rwa [add_block] at this | exact this) GW155.out) | (rw [add_block]; exact Nat.ne_of_lt (Nat.lt_of_lt_of_le (by have := World.block_lt_of_cell? _ _ hw153_0; first | rwa [add_block] at this | exact this) GW155.out)) | (show (Addr.add _ _).block ≠ _; rw [add_block]; exact Nat.ne_of_lt (Nat.lt_of_lt_of_le (by have := World.block_lt_of_cell? _ _ hw153_0; first | rwa [add_block] at this | exact this) GW155.out)) | (dsimp only; exact Nat.ne_of_lt (Nat.lt_of_lt_of_le (by have := World.block_lt_of_cell? _ _ hw153_0; first | rwa [add_block] at this | exact this) GW155.out))) _).trans (((cell_far (p := ⟨gb155, _, none⟩) (by first | exact Nat.ne_of_lt (Nat.lt_of_lt_of_le (by have := World.block_lt_of_cell? _ _ hw153_0; first | rwa [add_block] at this | exact this) GW155.out) | (rw [add_block]; exact Nat.ne_of_lt (Nat.lt_of_lt_of_le (by have := World.block_lt_of_cell? _ _ hw153_0; first | rwa [add_block] at this | exact this) GW155.out)) | (show (Addr.add _ _).block ≠ _; rw [add_block]; exact Nat.ne_of_lt (Nat.lt_of_lt_of_le (by have := World.block_lt_of_cell? _ _ hw153_0; first | rwa [add_block] at this | exact this) GW155.out)) | (dsimp only; exact Nat.ne_of_lt (Nat.lt_of_lt_of_le (by have := World.block_lt_of_cell? _ _ hw153_0; first | rwa [add_block] at this | exact this) GW155.out))) _).trans (((cell_far (p := ⟨gb155, _, none⟩) (by first | exact Nat.ne_of_lt (Nat.lt_of_lt_of_le (by have := World.block_lt_of_cell? _ _ hw153_0; first | rwa [add_block] at this | exact this) GW155.out) | (rw [add_block]; exact Nat.ne_of_lt (Nat.lt_of_lt_of_le (by have := World.block_lt_of_cell? _ _ hw153_0; first | rwa [add_block] at this | exact this) GW155.out)) | (show (Addr.add _ _).block ≠ _; rw [add_block]; exact Nat.ne_of_lt (Nat.lt_of_lt_of_le (by have := World.block_lt_of_cell? _ _ hw153_0; first | rwa [add_block] at this | exact this) GW155.out)) | (dsimp only; exact Nat.ne_of_lt (Nat.lt_of_lt_of_le (by have := World.block_lt_of_cell? _ _ hw153_0; first | rwa [add_block] at this | exact this) GW155.out))) _).trans (hHeld.2.2.2.2.2.1)))))))))), ((cell_far (p := ⟨gb155, _, none⟩) (by first | exact Nat.ne_of_lt (Nat.lt_of_lt_of_le (by have := World.block_lt_of_cell? _ _ hw153_1; first | rwa [add_block] at this | exact this) GW155.out) | (rw [add_block]; exact Nat.ne_of_lt (Nat.lt_of_lt_of_le (by have := World.block_lt_of_cell? _ _ hw153_1; first | rwa [add_block] at this | exact this) GW155.out)) | (show (Addr.add _ _).block ≠ _; rw [add_block]; exact Nat.ne_of_lt (Nat.lt_of_lt_of_le (by have := World.block_lt_of_cell? _ _ hw153_1; first | rwa [add_block] at this | exact this) GW155.out)) | (dsimp only; exact Nat.ne_of_lt (Nat.lt_of_lt_of_le (by have := World.block_lt_of_cell? _ _ hw153_1; first | rwa [add_block] at this | exact this) GW155.out))) _).trans (((cell_far (p := ⟨gb155, _, none⟩) (by first | exact Nat.ne_of_lt (Nat.lt_of_lt_of_le (by have := World.block_lt_of_cell? _ _ hw153_1; first | rwa [add_block] at this | exact this) GW155.out) | (rw [add_block]; exact Nat.ne_of_lt (Nat.lt_of_lt_of_le (by have := World.block_lt_of_cell? _ _ hw153_1; first | rwa [add_block] at this | exact this) GW155.out)) | (show (Addr.add _ _).block ≠ _; rw [add_block]; exact Nat.ne_of_lt (Nat.lt_of_lt_of_le (by have := World.block_lt_of_cell? _ _ hw153_1; first | rwa [add_block] at this | exact this) GW155.out)) | (dsimp only; exact Nat.ne_of_lt (Nat.lt_of_lt_of_le (by have := World.block_lt_of_cell? _ _ hw153_1; first | rwa [add_block] at this | exact this) GW155.out))) _).trans (((cell_far (p := ⟨gb155, _, none⟩) (by first | exact Nat.ne_of_lt (Nat.lt_of_lt_of_le (by have := World.block_lt_of_cell? _ _ hw153_1; first | rwa [add_block] at this | exact this) GW155.out) | (rw [add_block]; exact Nat.ne_of_lt (Nat.lt_of_lt_of_le (by have := World.block_lt_of_cell? _ _ hw153_1; first | rwa [add_block] at this | exact this) GW155.out)) | (show (Addr.add _ _).block ≠ _; rw [add_block]; exact Nat.ne_of_lt (Nat.lt_of_lt_of_le (by have := World.block_lt_of_cell? _ _ hw153_1; first | rwa [add_block] at this | exact this) GW155.out)) | (dsimp only; exact Nat.ne_of_lt (Nat.lt_of_lt_of_le (by have := World.block_lt_of_cell? _ _ hw153_1; first | rwa [add_block] at this | exact this) GW155.out))) _).trans (((cell_far (p := ⟨gb155, _, none⟩) (by first | exact Nat.ne_of_lt (Nat.lt_of_lt_of_le (by have := World.block_lt_of_cell? _ _ hw153_1; first | rwa [add_block] at this | exact this) GW155.out) | (rw [add_block]; exact Nat.ne_of_lt (Nat.lt_of_lt_of_le (by have := World.block_lt_of_cell? _ _ hw153_1; first | rwa [add_block] at this | exact this) GW155.out)) | (show (Addr.add _ _).block ≠ _; rw [add_block]; exact Nat.ne_of_lt (Nat.lt_of_lt_of_le (by have := World.block_lt_of_cell? _ _ hw153_1; first | rwa [add_block] at this | exact this) GW155.out)) | (dsimp only; exact Nat.ne_of_lt (Nat.lt_of_lt_of_le (by have := World.block_lt_of_cell? _ _ hw153_1; first | rwa [add_block] at this | exact this) GW155.out))) _).trans (((cell_far (p := ⟨gb155, _, none⟩) (by first | exact Nat.ne_of_lt (Nat.lt_of_lt_of_le (by have := World.block_lt_of_cell? _ _ hw153_1; first | rwa [add_block] at this | exact this) GW155.out) | (rw [add_block]; exact Nat.ne_of_lt (Nat.lt_of_lt_of_le (by have := World.block_lt_of_cell? _ _ hw153_1; first | rwa [add_block] at this | exact this) GW155.out)) | (show (Addr.add _ _).block ≠ _; rw [add_block]; exact Nat.ne_of_lt (Nat.lt_of_lt_of_le (by have := World.block_lt_of_cell? _ _ hw153_1; first | rwa [add_block] at this | exact this) GW155.out)) | (dsimp only; exact Nat.ne_of_lt (Nat.lt_of_lt_of_le (by have := World.block_lt_of_cell? _ _ hw153_1; first | rwa [add_block] at this | exact this) GW155.out))) _).trans (hHeld.2.2.2.2.2.2.1)))))))))), ((cell_far (p := ⟨gb155, _, none⟩) (by first | exact Nat.ne_of_lt (Nat.lt_of_lt_of_le (by have := World.block_lt_of_cell? _ _ hw153_2; first | rwa [add_block] at this | exact this) GW155.out) | (rw [add_block]; exact Nat.ne_of_lt (Nat.lt_of_lt_of_le (by have := World.block_lt_of_cell? _ _ hw153_2; first | rwa [add_block] at this | exact this) GW155.out)) | (show (Addr.add _ _).block ≠ _; rw [add_block]; exact Nat.ne_of_lt (Nat.lt_of_lt_of_le (by have := World.block_lt_of_cell? _ _ hw153_2; first | rwa [add_block] at this | exact this) GW155.out)) | (dsimp only; exact Nat.ne_of_lt (Nat.lt_of_lt_of_le (by have := World.block_lt_of_cell? _ _ hw153_2; first | rwa [add_block] at this | exact this) GW155.out))) _).trans (((cell_far (p := ⟨gb155, _, none⟩) (by first | exact Nat.ne_of_lt (Nat.lt_of_lt_of_le (by have := World.block_lt_of_cell? _ _ hw153_2; first | rwa [add_block] at this | exact this) GW155.out) | (rw [add_block]; exact Nat.ne_of_lt (Nat.lt_of_lt_of_le (by have := World.block_lt_of_cell? _ _ hw153_2; first | rwa [add_block] at this | exact this) GW155.out)) | (show (Addr.add _ _).block ≠ _; rw [add_block]; exact Nat.ne_of_lt (Nat.lt_of_lt_of_le (by have := World.block_lt_of_cell? _ _ hw153_2; first | rwa [add_block] at this | exact this) GW155.out)) | (dsimp only; exact Nat.ne_of_lt (Nat.lt_of_lt_of_le (by have := World.block_lt_of_cell? _ _ hw153_2; first | rwa [add_block] at this | exact this) GW155.out))) _).trans (((cell_far (p := ⟨gb155, _, none⟩) (by first | exact Nat.ne_of_lt (Nat.lt_of_lt_of_le (by have := World.block_lt_of_cell? _ _ hw153_2; first | rwa [add_block] at this | exact this) GW155.out) | (rw [add_block]; exact Nat.ne_of_lt (Nat.lt_of_lt_of_le (by have := World.block_lt_of_cell? _ _ hw153_2; first | rwa [add_block] at this | exact this) GW155.out)) | (show (Addr.add _ _).block ≠ _; rw [add_block]; exact Nat.ne_of_lt (Nat.lt_of_lt_of_le (by have := World.block_lt_of_cell? _ _ hw153_2; first | rwa [add_block] at this | exact this) GW155.out)) | (dsimp only; exact Nat.ne_of_lt (Nat.lt_of_lt_of_le (by have := World.block_lt_of_cell? _ _ hw153_2; first | rwa [add_block] at this | exact this) GW155.out))) _).trans (((cell_far (p := ⟨gb155, _, none⟩) (by first | exact Nat.ne_of_lt (Nat.lt_of_lt_of_le (by have := World.block_lt_of_cell? _ _ hw153_2; first | rwa [add_block] at this | exact this) GW155.out) | (rw [add_block]; exact Nat.ne_of_lt (Nat.lt_of_lt_of_le (by have := World.block_lt_of_cell? _ _ hw153_2; first | rwa [add_block] at this | exact this) GW155.out)) | (show (Addr.add _ _).block ≠ _; rw [add_block]; exact Nat.ne_of_lt (Nat.lt_of_lt_of_le (by have := World.block_lt_of_cell? _ _ hw153_2; first | rwa [add_block] at this | exact this) GW155.out)) | (dsimp only; exact Nat.ne_of_lt (Nat.lt_of_lt_of_le (by have := World.block_lt_of_cell? _ _ hw153_2; first | rwa [add_block] at this | exact this) GW155.out))) _).trans (((cell_far (p := ⟨gb155, _, none⟩) (by first | exact Nat.ne_of_lt (Nat.lt_of_lt_of_le (by have := World.block_lt_of_cell? _ _ hw153_2; first | rwa [add_block] at this | exact this) GW155.out) | (rw [add_block]; exact Nat.ne_of_lt (Nat.lt_of_lt_of_le (by have := World.block_lt_of_cell? _ _ hw153_2; first | rwa [add_block] at this | exact this) GW155.out)) | (show (Addr.add _ _).block ≠ _; rw [add_block]; exact Nat.ne_of_lt (Nat.lt_of_lt_of_le (by have := World.block_lt_of_cell? _ _ hw153_2; first | rwa [add_block] at this | exact this) GW155.out)) | (dsimp only; exact Nat.ne_of_lt (Nat.lt_of_lt_of_le (by have := World.block_lt_of_cell? _ _ hw153_2; first | rwa [add_block] at this | exact this) GW155.out))) _).trans (hHeld.2.2.2.2.2.2.2.1)))))))))), ((cell_far (p := ⟨gb155, _, none⟩) (by first | exact Nat.ne_of_lt (Nat.lt_of_lt_of_le (by have := World.block_lt_of_cell? _ _ hw153_3; first | rwa [add_block] at this | exact this) GW155.out) | (rw [add_block]; exact Nat.ne_of_lt (Nat.lt_of_lt_of_le (by have := World.block_lt_of_cell? _ _ hw153_3; first | rwa [add_block] at this | exact this) GW155.out)) | (show (Addr.add _ _).block ≠ _; rw [add_block]; exact Nat.ne_of_lt (Nat.lt_of_lt_of_le (by have := World.block_lt_of_cell? _ _ hw153_3; first | rwa [add_block] at this | exact this) GW155.out)) | (dsimp only; exact Nat.ne_of_lt (Nat.lt_of_lt_of_le (by have := World.block_lt_of_cell? _ _ hw153_3; first | rwa [add_block] at this | exact this) GW155.out))) _).trans (((cell_far (p := ⟨gb155, _, none⟩) (by first | exact Nat.ne_of_lt (Nat.lt_of_lt_of_le (by have := World.block_lt_of_cell? _ _ hw153_3; first | rwa [add_block] at this | exact this) GW155.out) | (rw [add_block]; exact Nat.ne_of_lt (Nat.lt_of_lt_of_le (by have := World.block_lt_of_cell? _ _ hw153_3; first | rwa [add_block] at this | exact this) GW155.out)) | (show (Addr.add _ _).block ≠ _; rw [add_block]; exact Nat.ne_of_lt (Nat.lt_of_lt_of_le (by have := World.block_lt_of_cell? _ _ hw153_3; first | rwa [add_block] at this | exact this) GW155.out)) | (dsimp only; exact Nat.ne_of_lt (Nat.lt_of_lt_of_le (by have := World.block_lt_of_cell? _ _ hw153_3; first | rwa [add_block] at this | exact this) GW155.out))) _).trans (((cell_far (p := ⟨gb155, _, none⟩) (by first | exact Nat.ne_of_lt (Nat.lt_of_lt_of_le (by have := World.block_lt_of_cell? _ _ hw153_3; first | rwa [add_block] at this | exact this) GW155.out) | (rw [add_block]; exact Nat.ne_of_lt (Nat.lt_of_lt_of_le (by have := World.block_lt_of_cell? _ _ hw153_3; first | rwa [add_block] at this | exact this) GW155.out)) | (show (Addr.add _ _).block ≠ _; rw [add_block]; exact Nat.ne_of_lt (Nat.lt_of_lt_of_le (by have := World.block_lt_of_cell? _ _ hw153_3; first | rwa [add_block] at this | exact this) GW155.out)) | (dsimp only; exact Nat.ne_of_lt (Nat.lt_of_lt_of_le (by have := World.block_lt_of_cell? _ _ hw153_3; first | rwa [add_block] at this | exact this) GW155.out))) _).trans (((cell_far (p := ⟨gb155, _, none⟩) (by first | exact Nat.ne_of_lt (Nat.lt_of_lt_of_le (by have := World.block_lt_of_cell? _ _ hw153_3; first | rwa [add_block] at this | exact this) GW155.out) | (rw [add_block]; exact Nat.ne_of_lt (Nat.lt_of_lt_of_le (by have := World.block_lt_of_cell? _ _ hw153_3; first | rwa [add_block] at this | exact this) GW155.out)) | (show (Addr.add _ _).block ≠ _; rw [add_block]; exact Nat.ne_of_lt (Nat.lt_of_lt_of_le (by have := World.block_lt_of_cell? _ _ hw153_3; first | rwa [add_block] at this | exact this) GW155.out)) | (dsimp only; exact Nat.ne_of_lt (Nat.lt_of_lt_of_le (by have := World.block_lt_of_cell? _ _ hw153_3; first | rwa [add_block] at this | exact this) GW155.out))) _).trans (((cell_far (p := ⟨gb155, _, none⟩) (by first | exact Nat.ne_of_lt (Nat.lt_of_lt_of_le (by have := World.block_lt_of_cell? _ _ hw153_3; first | rwa [add_block] at this | exact this) GW155.out) | (rw [add_block]; exact Nat.ne_of_lt (Nat.lt_of_lt_of_le (by have := World.block_lt_of_cell? _ _ hw153_3; first | rwa [add_block] at this | exact this) GW155.out)) | (show (Addr.add _ _).block ≠ _; rw [add_block]; exact Nat.ne_of_lt (Nat.lt_of_lt_of_le (by have := World.block_lt_of_cell? _ _ hw153_3; first | rwa [add_block] at this | exact this) GW155.out)) | (dsimp only; exact Nat.ne_of_lt (Nat.lt_of_lt_of_le (by have := World.block_lt_of_cell? _ _ hw153_3; first | rwa [add_block] at this | exact this) GW155.out))) _).trans (hHeld.2.2.2.2.2.2.2.2.1)))))))))), ((cell_far (p := ⟨gb155, _, none⟩) (by first | exact Nat.ne_of_lt (Nat.lt_of_lt_of_le (by have := World.block_lt_of_cell? _ _ hw153_4; first | rwa [add_block] at this | exact this) GW155.out) | (rw [add_block]; exact Nat.ne_of_lt (Nat.lt_of_lt_of_le (by have := World.block_lt_of_cell? _ _ hw153_4; first | rwa [add_block] at this | exact this) GW155.out)) | (show (Addr.add _ _).block ≠ _; rw [add_block]; exact Nat.ne_of_lt (Nat.lt_of_lt_of_le (by have := World.block_lt_of_cell? _ _ hw153_4; first | rwa [add_block] at this | exact this) GW155.out)) | (dsimp only; exact Nat.ne_of_lt (Nat.lt_of_lt_of_le (by have := World.block_lt_of_cell? _ _ hw153_4; first | rwa [add_block] at this | exact this) GW155.out))) _).trans (((cell_far (p := ⟨gb155, _, none⟩) (by first | exact Nat.ne_of_lt (Nat.lt_of_lt_of_le (by have := World.block_lt_of_cell? _ _ hw153_4; first | rwa [add_block] at this | exact this) GW155.out) | (rw [add_block]; exact Nat.ne_of_lt (Nat.lt_of_lt_of_le (by have := World.block_lt_of_cell? _ _ hw153_4; first | rwa [add_block] at this | exact this) GW155.out)) | (show (Addr.add _ _).block ≠ _; rw [add_block]; exact Nat.ne_of_lt (Nat.lt_of_lt_of_le (by have := World.block_lt_of_cell? _ _ hw153_4; first | rwa [add_block] at this | exact this) GW155.out)) | (dsimp only; exact Nat.ne_of_lt (Nat.lt_of_lt_of_le (by have := World.block_lt_of_cell? _ _ hw153_4; first | rwa [add_block] at this | exact this) GW155.out))) _).trans (((cell_far (p := ⟨gb155, _, none⟩) (by first | exact Nat.ne_of_lt (Nat.lt_of_lt_of_le (by have := World.block_lt_of_cell? _ _ hw153_4; first | rwa [add_block] at this | exact this) GW155.out) | (rw [add_block]; exact Nat.ne_of_lt (Nat.lt_of_lt_of_le (by have := World.block_lt_of_cell? _ _ hw153_4; first | rwa [add_block] at this | exact this) GW155.out)) | (show (Addr.add _ _).block ≠ _; rw [add_block]; exact Nat.ne_of_lt (Nat.lt_of_lt_of_le (by have := World.block_lt_of_cell? _ _ hw153_4; first | rwa [add_block] at this | exact this) GW155.out)) | (dsimp only; exact Nat.ne_of_lt (Nat.lt_of_lt_of_le (by have := World.block_lt_of_cell? _ _ hw153_4; first | rwa [add_block] at this | exact this) GW155.out))) _).trans (((cell_far (p := ⟨gb155, _, none⟩) (by first | exact Nat.ne_of_lt (Nat.lt_of_lt_of_le (by have := World.block_lt_of_cell? _ _ hw153_4; first | rwa [add_block] at this | exact this) GW155.out) | (rw [add_block]; exact Nat.ne_of_lt (Nat.lt_of_lt_of_le (by have := World.block_lt_of_cell? _ _ hw153_4; first | rwa [add_block] at this | exact this) GW155.out)) | (show (Addr.add _ _).block ≠ _; rw [add_block]; exact Nat.ne_of_lt (Nat.lt_of_lt_of_le (by have := World.block_lt_of_cell? _ _ hw153_4; first | rwa [add_block] at this | exact this) GW155.out)) | (dsimp only; exact Nat.ne_of_lt (Nat.lt_of_lt_of_le (by have := World.block_lt_of_cell? _ _ hw153_4; first | rwa [add_block] at this | exact this) GW155.out))) _).trans (((cell_far (p := ⟨gb155, _, none⟩) (by first | exact Nat.ne_of_lt (Nat.lt_of_lt_of_le (by have := World.block_lt_of_cell? _ _ hw153_4; first | rwa [add_block] at this | exact this) GW155.out) | (rw [add_block]; exact Nat.ne_of_lt (Nat.lt_of_lt_of_le (by have := World.block_lt_of_cell? _ _ hw153_4; first | rwa [add_block] at this | exact this) GW155.out)) | (show (Addr.add _ _).block ≠ _; rw [add_block]; exact Nat.ne_of_lt (Nat.lt_of_lt_of_le (by have := World.block_lt_of_cell? _ _ hw153_4; first | rwa [add_block] at this | exact this) GW155.out)) | (dsimp only; exact Nat.ne_of_lt (Nat.lt_of_lt_of_le (by have := World.block_lt_of_cell? _ _ hw153_4; first | rwa [add_block] at this | exact this) GW155.out))) _).trans (hHeld.2.2.2.2.2.2.2.2.2))))))))))⟩ (fun hHeld => ?_)
              clear hK K
              refine done_ (done_of HT_.out (by kernel_rfl)) ?_
              go_upto_region 7 with (fail)
              go_cut [68] (fun v68 wc => ∃ (kq : Nat) (x68_6 : Bool), v68 = .bool x68_6 ∧ Aside0 (refrainlaw22_events.j1 kq l0 l1 x5_1 x68_6 ((rd_T71 l0 x5_1).f0) ((rd_T71 l0 x5_1).f1.f0) ((rd_T71 l0 x5_1).f1.f1) ((rd_T71 l0 x5_1).f1.f2) ((rd_T71 l0 x5_1).f2) ((rd_T71 l1 x5_1).f0) ((rd_T71 l1 x5_1).f1.f0) ((rd_T71 l1 x5_1).f1.f1) ((rd_T71 l1 x5_1).f1.f2) ((rd_T71 l1 x5_1).f2) = some r) ∧ Aside0 (kq ≤ k1) ∧ Aside0 (wc.heap[gb154]? = some (.cells #[.int .i64 ((rd_T71 l0 x5_1).f0), .string ((rd_T71 l0 x5_1).f1.f0), .int .i64 ((rd_T71 l0 x5_1).f1.f1), (.slice A152_3 ((rd_T71 l0 x5_1).f1.f2).length c152_3), .bool ((rd_T71 l0 x5_1).f2)] 71 (0, 0))) ∧ Aside0 (wc.heap[gb155]? = some (.cells #[.int .i64 ((rd_T71 l1 x5_1).f0), .string ((rd_T71 l1 x5_1).f1.f0), .int .i64 ((rd_T71 l1 x5_1).f1.f1), (.slice A153_3 ((rd_T71 l1 x5_1).f1.f2).length c153_3), .bool ((rd_T71 l1 x5_1).f2)] 71 (0, 0))) ∧ Aside0 (Below w.heap.size w wc))
              case first =>
                have H := HC7.out
                clear HC7
                by_cases c22 : ((rd_T71 l0 x5_1).f0) = ((rd_T71 l1 x5_1).f0)
                · rw [if_pos c22] at H
                  have c22b0 : (((rd_T71 l0 x5_1).f0) == ((rd_T71 l1 x5_1).f0)) = true := beq_iff_eq.mpr c22
                  have c22b1 : (((rd_T71 l0 x5_1).f0) != ((rd_T71 l1 x5_1).f0)) = false := bne_eq_false_iff_eq.mpr c22
                  clear c22
                  (first | rw [c22b0] | (simp only [i64_w, i32_w]; rw [c22b0]) | skip)
                  by_cases c23 : (((rd_T71 l0 x5_1).f2) != ((rd_T71 l1 x5_1).f2)) = true
                  · rw [if_pos c23] at H
                    have c23b0 : (((rd_T71 l0 x5_1).f2) != ((rd_T71 l1 x5_1).f2)) = true := c23
                    (try (have c23b1 : decide (((rd_T71 l0 x5_1).f2) = ((rd_T71 l1 x5_1).f2)) = false := by simpa using c23))
                    (try (have c23b2 : (((rd_T71 l0 x5_1).f2) == ((rd_T71 l1 x5_1).f2)) = false := by simpa using c23))
                    (try (have c23b3 : ¬ (((rd_T71 l0 x5_1).f2) = ((rd_T71 l1 x5_1).f2)) := by simpa using c23))
                    clear c23
                    have H' := Aside0.mk H
                    clear H
                    have hnb24 := NB154_155.out
                    have hnc24 := NB155_154.out
                    have hcz25_0 : w11.cell? ⟨gb154, 0, none⟩ = some (.int .i64 0) := (blk_cell BK154.out 0).trans rfl
                    have hcz25_1 : w11.cell? ⟨gb154, 1, none⟩ = some (.string (⟨#[]⟩ : ByteArray)) := (blk_cell BK154.out 1).trans rfl
                    have hcz25_2 : w11.cell? ⟨gb154, 2, none⟩ = some (.int .i64 0) := (blk_cell BK154.out 2).trans rfl
                    have hcz25_3 : w11.cell? ⟨gb154, 3, none⟩ = some (.slice none 0 0) := (blk_cell BK154.out 3).trans rfl
                    have hcz25_4 : w11.cell? ⟨gb154, 4, none⟩ = some (.bool false) := (blk_cell BK154.out 4).trans rfl
                    have hfz25_0 := blk_frozen BK154.out 0
                    have hfz25_1 := blk_frozen BK154.out 1
                    have hfz25_2 := blk_frozen BK154.out 2
                    have hfz25_3 := blk_frozen BK154.out 3
                    have hfz25_4 := blk_frozen BK154.out 4
                    have hcz26_0 : w11.cell? ⟨gb155, 0, none⟩ = some (.int .i64 0) := (blk_cell BK155.out 0).trans rfl
                    have hcz26_1 : w11.cell? ⟨gb155, 1, none⟩ = some (.string (⟨#[]⟩ : ByteArray)) := (blk_cell BK155.out 1).trans rfl
                    have hcz26_2 : w11.cell? ⟨gb155, 2, none⟩ = some (.int .i64 0) := (blk_cell BK155.out 2).trans rfl
                    have hcz26_3 : w11.cell? ⟨gb155, 3, none⟩ = some (.slice none 0 0) := (blk_cell BK155.out 3).trans rfl
                    have hcz26_4 : w11.cell? ⟨gb155, 4, none⟩ = some (.bool false) := (blk_cell BK155.out 4).trans rfl
                    have hfz26_0 := blk_frozen BK155.out 0
                    have hfz26_1 := blk_frozen BK155.out 1
                    have hfz26_2 := blk_frozen BK155.out 2
                    have hfz26_3 := blk_frozen BK155.out 3
                    have hfz26_4 := blk_frozen BK155.out 4
                    go_wp2
                    go_meet
                    case rel => exact ⟨_, (true), (by first | rfl | (simp; done) | (simp [*]; done)), H', ⟨by have := HK1.out; first | omega | exact Nat.le_refl _⟩, ⟨by (with_reducible repeat (first | refine blk_drewN ?_ _ | refine blk_drew ?_ | refine blk_alloc ?_ _)); refine blk_far ?_ NB154_155.out _; (with_reducible repeat (first | refine blk_drewN ?_ _ | refine blk_drew ?_ | refine blk_alloc ?_ _)); refine blk_far ?_ NB154_155.out _; (with_reducible repeat (first | refine blk_drewN ?_ _ | refine blk_drew ?_ | refine blk_alloc ?_ _)); refine blk_far ?_ NB154_155.out _; (with_reducible repeat (first | refine blk_drewN ?_ _ | refine blk_drew ?_ | refine blk_alloc ?_ _)); refine blk_far ?_ NB154_155.out _; (with_reducible repeat (first | refine blk_drewN ?_ _ | refine blk_drew ?_ | refine blk_alloc ?_ _)); refine blk_far ?_ NB154_155.out _; (with_reducible repeat (first | refine blk_drewN ?_ _ | refine blk_drew ?_ | refine blk_alloc ?_ _)); refine blk_put (cs := #[.int .i64 ((rd_T71 l0 x5_1).f0), .string ((rd_T71 l0 x5_1).f1.f0), .int .i64 ((rd_T71 l0 x5_1).f1.f1), .slice A152_3 ((rd_T71 l0 x5_1).f1.f2).length c152_3, .bool false]) ?_ 4 _ rfl; (with_reducible repeat (first | refine blk_drewN ?_ _ | refine blk_drew ?_ | refine blk_alloc ?_ _)); refine blk_put (cs := #[.int .i64 ((rd_T71 l0 x5_1).f0), .string ((rd_T71 l0 x5_1).f1.f0), .int .i64 ((rd_T71 l0 x5_1).f1.f1), .slice none 0 0, .bool false]) ?_ 3 _ rfl; (with_reducible repeat (first | refine blk_drewN ?_ _ | refine blk_drew ?_ | refine blk_alloc ?_ _)); refine blk_put (cs := #[.int .i64 ((rd_T71 l0 x5_1).f0), .string ((rd_T71 l0 x5_1).f1.f0), .int .i64 0, .slice none 0 0, .bool false]) ?_ 2 _ rfl; (with_reducible repeat (first | refine blk_drewN ?_ _ | refine blk_drew ?_ | refine blk_alloc ?_ _)); refine blk_put (cs := #[.int .i64 ((rd_T71 l0 x5_1).f0), .string (⟨#[]⟩ : ByteArray), .int .i64 0, .slice none 0 0, .bool false]) ?_ 1 _ rfl; (with_reducible repeat (first | refine blk_drewN ?_ _ | refine blk_drew ?_ | refine blk_alloc ?_ _)); refine blk_put (cs := #[.int .i64 0, .string (⟨#[]⟩ : ByteArray), .int .i64 0, .slice none 0 0, .bool false]) ?_ 0 _ rfl; (with_reducible repeat (first | refine blk_drewN ?_ _ | refine blk_drew ?_ | refine blk_alloc ?_ _)); exact BK154.out⟩, ⟨by (with_reducible repeat (first | refine blk_drewN ?_ _ | refine blk_drew ?_ | refine blk_alloc ?_ _)); refine blk_put (cs := #[.int .i64 ((rd_T71 l1 x5_1).f0), .string ((rd_T71 l1 x5_1).f1.f0), .int .i64 ((rd_T71 l1 x5_1).f1.f1), .slice A153_3 ((rd_T71 l1 x5_1).f1.f2).length c153_3, .bool false]) ?_ 4 _ rfl; (with_reducible repeat (first | refine blk_drewN ?_ _ | refine blk_drew ?_ | refine blk_alloc ?_ _)); refine blk_put (cs := #[.int .i64 ((rd_T71 l1 x5_1).f0), .string ((rd_T71 l1 x5_1).f1.f0), .int .i64 ((rd_T71 l1 x5_1).f1.f1), .slice none 0 0, .bool false]) ?_ 3 _ rfl; (with_reducible repeat (first | refine blk_drewN ?_ _ | refine blk_drew ?_ | refine blk_alloc ?_ _)); refine blk_put (cs := #[.int .i64 ((rd_T71 l1 x5_1).f0), .string ((rd_T71 l1 x5_1).f1.f0), .int .i64 0, .slice none 0 0, .bool false]) ?_ 2 _ rfl; (with_reducible repeat (first | refine blk_drewN ?_ _ | refine blk_drew ?_ | refine blk_alloc ?_ _)); refine blk_put (cs := #[.int .i64 ((rd_T71 l1 x5_1).f0), .string (⟨#[]⟩ : ByteArray), .int .i64 0, .slice none 0 0, .bool false]) ?_ 1 _ rfl; (with_reducible repeat (first | refine blk_drewN ?_ _ | refine blk_drew ?_ | refine blk_alloc ?_ _)); refine blk_put (cs := #[.int .i64 0, .string (⟨#[]⟩ : ByteArray), .int .i64 0, .slice none 0 0, .bool false]) ?_ 0 _ rfl; (with_reducible repeat (first | refine blk_drewN ?_ _ | refine blk_drew ?_ | refine blk_alloc ?_ _)); refine blk_far ?_ NB155_154.out _; (with_reducible repeat (first | refine blk_drewN ?_ _ | refine blk_drew ?_ | refine blk_alloc ?_ _)); refine blk_far ?_ NB155_154.out _; (with_reducible repeat (first | refine blk_drewN ?_ _ | refine blk_drew ?_ | refine blk_alloc ?_ _)); refine blk_far ?_ NB155_154.out _; (with_reducible repeat (first | refine blk_drewN ?_ _ | refine blk_drew ?_ | refine blk_alloc ?_ _)); refine blk_far ?_ NB155_154.out _; (with_reducible repeat (first | refine blk_drewN ?_ _ | refine blk_drew ?_ | refine blk_alloc ?_ _)); refine blk_far ?_ NB155_154.out _; (with_reducible repeat (first | refine blk_drewN ?_ _ | refine blk_drew ?_ | refine blk_alloc ?_ _)); exact BK155.out⟩, ⟨by repeat (first | (with_reducible first | exact HB.out | apply below_alloc | apply pw_below_drewN | apply below_drew1 | refine below_set ?_ GE154.out | refine below_set ?_ GE155.out) | exact HB.out)⟩⟩
                  · rw [if_neg c23] at H
                    have c23b0 : (((rd_T71 l0 x5_1).f2) != ((rd_T71 l1 x5_1).f2)) = false := by simpa using c23
                    (try (have c23b1 : decide (((rd_T71 l0 x5_1).f2) = ((rd_T71 l1 x5_1).f2)) = true := by simpa using c23))
                    (try (have c23b2 : (((rd_T71 l0 x5_1).f2) == ((rd_T71 l1 x5_1).f2)) = true := by simpa using c23))
                    clear c23
                    by_cases c27 : ((rd_T71 l0 x5_1).f1.f0).toList = ((rd_T71 l1 x5_1).f1.f0).toList
                    · rw [if_pos c27] at H
                      have c27b0 : (((rd_T71 l0 x5_1).f1.f0).toList == ((rd_T71 l1 x5_1).f1.f0).toList) = true := beq_iff_eq.mpr c27
                      have c27b1 : (((rd_T71 l0 x5_1).f1.f0).toList != ((rd_T71 l1 x5_1).f1.f0).toList) = false := bne_eq_false_iff_eq.mpr c27
                      clear c27
                      by_cases c28 : ((rd_T71 l0 x5_1).f1.f1) = ((rd_T71 l1 x5_1).f1.f1)
                      · rw [if_pos c28] at H
                        have c28b0 : (((rd_T71 l0 x5_1).f1.f1) == ((rd_T71 l1 x5_1).f1.f1)) = true := beq_iff_eq.mpr c28
                        have c28b1 : (((rd_T71 l0 x5_1).f1.f1) != ((rd_T71 l1 x5_1).f1.f1)) = false := bne_eq_false_iff_eq.mpr c28
                        clear c28
                        have H' := Aside0.mk H
                        clear H
                        have hnb29 := NB154_155.out
                        have hnc29 := NB155_154.out
                        have hcz30_0 : w11.cell? ⟨gb154, 0, none⟩ = some (.int .i64 0) := (blk_cell BK154.out 0).trans rfl
                        have hcz30_1 : w11.cell? ⟨gb154, 1, none⟩ = some (.string (⟨#[]⟩ : ByteArray)) := (blk_cell BK154.out 1).trans rfl
                        have hcz30_2 : w11.cell? ⟨gb154, 2, none⟩ = some (.int .i64 0) := (blk_cell BK154.out 2).trans rfl
                        have hcz30_3 : w11.cell? ⟨gb154, 3, none⟩ = some (.slice none 0 0) := (blk_cell BK154.out 3).trans rfl
                        have hcz30_4 : w11.cell? ⟨gb154, 4, none⟩ = some (.bool false) := (blk_cell BK154.out 4).trans rfl
                        have hfz30_0 := blk_frozen BK154.out 0
                        have hfz30_1 := blk_frozen BK154.out 1
                        have hfz30_2 := blk_frozen BK154.out 2
                        have hfz30_3 := blk_frozen BK154.out 3
                        have hfz30_4 := blk_frozen BK154.out 4
                        have hcz31_0 : w11.cell? ⟨gb155, 0, none⟩ = some (.int .i64 0) := (blk_cell BK155.out 0).trans rfl
                        have hcz31_1 : w11.cell? ⟨gb155, 1, none⟩ = some (.string (⟨#[]⟩ : ByteArray)) := (blk_cell BK155.out 1).trans rfl
                        have hcz31_2 : w11.cell? ⟨gb155, 2, none⟩ = some (.int .i64 0) := (blk_cell BK155.out 2).trans rfl
                        have hcz31_3 : w11.cell? ⟨gb155, 3, none⟩ = some (.slice none 0 0) := (blk_cell BK155.out 3).trans rfl
                        have hcz31_4 : w11.cell? ⟨gb155, 4, none⟩ = some (.bool false) := (blk_cell BK155.out 4).trans rfl
                        have hfz31_0 := blk_frozen BK155.out 0
                        have hfz31_1 := blk_frozen BK155.out 1
                        have hfz31_2 := blk_frozen BK155.out 2
                        have hfz31_3 := blk_frozen BK155.out 3
                        have hfz31_4 := blk_frozen BK155.out 4
                        go_wp2
                        go_meet
                        case rel => exact ⟨_, (((((rd_T71 l0 x5_1).f1.f2).length : Int) != (((rd_T71 l1 x5_1).f1.f2).length : Int))), (by first | rfl | (simp; done) | (simp [*]; done)), H', ⟨by have := HK1.out; first | omega | exact Nat.le_refl _⟩, ⟨by (with_reducible repeat (first | refine blk_drewN ?_ _ | refine blk_drew ?_ | refine blk_alloc ?_ _)); refine blk_far ?_ NB154_155.out _; (with_reducible repeat (first | refine blk_drewN ?_ _ | refine blk_drew ?_ | refine blk_alloc ?_ _)); refine blk_far ?_ NB154_155.out _; (with_reducible repeat (first | refine blk_drewN ?_ _ | refine blk_drew ?_ | refine blk_alloc ?_ _)); refine blk_far ?_ NB154_155.out _; (with_reducible repeat (first | refine blk_drewN ?_ _ | refine blk_drew ?_ | refine blk_alloc ?_ _)); refine blk_far ?_ NB154_155.out _; (with_reducible repeat (first | refine blk_drewN ?_ _ | refine blk_drew ?_ | refine blk_alloc ?_ _)); refine blk_far ?_ NB154_155.out _; (with_reducible repeat (first | refine blk_drewN ?_ _ | refine blk_drew ?_ | refine blk_alloc ?_ _)); refine blk_put (cs := #[.int .i64 ((rd_T71 l0 x5_1).f0), .string ((rd_T71 l0 x5_1).f1.f0), .int .i64 ((rd_T71 l0 x5_1).f1.f1), .slice A152_3 ((rd_T71 l0 x5_1).f1.f2).length c152_3, .bool false]) ?_ 4 _ rfl; (with_reducible repeat (first | refine blk_drewN ?_ _ | refine blk_drew ?_ | refine blk_alloc ?_ _)); refine blk_put (cs := #[.int .i64 ((rd_T71 l0 x5_1).f0), .string ((rd_T71 l0 x5_1).f1.f0), .int .i64 ((rd_T71 l0 x5_1).f1.f1), .slice none 0 0, .bool false]) ?_ 3 _ rfl; (with_reducible repeat (first | refine blk_drewN ?_ _ | refine blk_drew ?_ | refine blk_alloc ?_ _)); refine blk_put (cs := #[.int .i64 ((rd_T71 l0 x5_1).f0), .string ((rd_T71 l0 x5_1).f1.f0), .int .i64 0, .slice none 0 0, .bool false]) ?_ 2 _ rfl; (with_reducible repeat (first | refine blk_drewN ?_ _ | refine blk_drew ?_ | refine blk_alloc ?_ _)); refine blk_put (cs := #[.int .i64 ((rd_T71 l0 x5_1).f0), .string (⟨#[]⟩ : ByteArray), .int .i64 0, .slice none 0 0, .bool false]) ?_ 1 _ rfl; (with_reducible repeat (first | refine blk_drewN ?_ _ | refine blk_drew ?_ | refine blk_alloc ?_ _)); refine blk_put (cs := #[.int .i64 0, .string (⟨#[]⟩ : ByteArray), .int .i64 0, .slice none 0 0, .bool false]) ?_ 0 _ rfl; (with_reducible repeat (first | refine blk_drewN ?_ _ | refine blk_drew ?_ | refine blk_alloc ?_ _)); exact BK154.out⟩, ⟨by (with_reducible repeat (first | refine blk_drewN ?_ _ | refine blk_drew ?_ | refine blk_alloc ?_ _)); refine blk_put (cs := #[.int .i64 ((rd_T71 l1 x5_1).f0), .string ((rd_T71 l1 x5_1).f1.f0), .int .i64 ((rd_T71 l1 x5_1).f1.f1), .slice A153_3 ((rd_T71 l1 x5_1).f1.f2).length c153_3, .bool false]) ?_ 4 _ rfl; (with_reducible repeat (first | refine blk_drewN ?_ _ | refine blk_drew ?_ | refine blk_alloc ?_ _)); refine blk_put (cs := #[.int .i64 ((rd_T71 l1 x5_1).f0), .string ((rd_T71 l1 x5_1).f1.f0), .int .i64 ((rd_T71 l1 x5_1).f1.f1), .slice none 0 0, .bool false]) ?_ 3 _ rfl; (with_reducible repeat (first | refine blk_drewN ?_ _ | refine blk_drew ?_ | refine blk_alloc ?_ _)); refine blk_put (cs := #[.int .i64 ((rd_T71 l1 x5_1).f0), .string ((rd_T71 l1 x5_1).f1.f0), .int .i64 0, .slice none 0 0, .bool false]) ?_ 2 _ rfl; (with_reducible repeat (first | refine blk_drewN ?_ _ | refine blk_drew ?_ | refine blk_alloc ?_ _)); refine blk_put (cs := #[.int .i64 ((rd_T71 l1 x5_1).f0), .string (⟨#[]⟩ : ByteArray), .int .i64 0, .slice none 0 0, .bool false]) ?_ 1 _ rfl; (with_reducible repeat (first | refine blk_drewN ?_ _ | refine blk_drew ?_ | refine blk_alloc ?_ _)); refine blk_put (cs := #[.int .i64 0, .string (⟨#[]⟩ : ByteArray), .int .i64 0, .slice none 0 0, .bool false]) ?_ 0 _ rfl; (with_reducible repeat (first | refine blk_drewN ?_ _ | refine blk_drew ?_ | refine blk_alloc ?_ _)); refine blk_far ?_ NB155_154.out _; (with_reducible repeat (first | refine blk_drewN ?_ _ | refine blk_drew ?_ | refine blk_alloc ?_ _)); refine blk_far ?_ NB155_154.out _; (with_reducible repeat (first | refine blk_drewN ?_ _ | refine blk_drew ?_ | refine blk_alloc ?_ _)); refine blk_far ?_ NB155_154.out _; (with_reducible repeat (first | refine blk_drewN ?_ _ | refine blk_drew ?_ | refine blk_alloc ?_ _)); refine blk_far ?_ NB155_154.out _; (with_reducible repeat (first | refine blk_drewN ?_ _ | refine blk_drew ?_ | refine blk_alloc ?_ _)); refine blk_far ?_ NB155_154.out _; (with_reducible repeat (first | refine blk_drewN ?_ _ | refine blk_drew ?_ | refine blk_alloc ?_ _)); exact BK155.out⟩, ⟨by repeat (first | (with_reducible first | exact HB.out | apply below_alloc | apply pw_below_drewN | apply below_drew1 | refine below_set ?_ GE154.out | refine below_set ?_ GE155.out) | exact HB.out)⟩⟩
                      · rw [if_neg c28] at H
                        have c28b0 : (((rd_T71 l0 x5_1).f1.f1) == ((rd_T71 l1 x5_1).f1.f1)) = false := beq_eq_false_iff_ne.mpr c28
                        have c28b1 : (((rd_T71 l0 x5_1).f1.f1) != ((rd_T71 l1 x5_1).f1.f1)) = true := bne_iff_ne.mpr c28
                        have H' := Aside0.mk H
                        clear H
                        have hnb32 := NB154_155.out
                        have hnc32 := NB155_154.out
                        have hcz33_0 : w11.cell? ⟨gb154, 0, none⟩ = some (.int .i64 0) := (blk_cell BK154.out 0).trans rfl
                        have hcz33_1 : w11.cell? ⟨gb154, 1, none⟩ = some (.string (⟨#[]⟩ : ByteArray)) := (blk_cell BK154.out 1).trans rfl
                        have hcz33_2 : w11.cell? ⟨gb154, 2, none⟩ = some (.int .i64 0) := (blk_cell BK154.out 2).trans rfl
                        have hcz33_3 : w11.cell? ⟨gb154, 3, none⟩ = some (.slice none 0 0) := (blk_cell BK154.out 3).trans rfl
                        have hcz33_4 : w11.cell? ⟨gb154, 4, none⟩ = some (.bool false) := (blk_cell BK154.out 4).trans rfl
                        have hfz33_0 := blk_frozen BK154.out 0
                        have hfz33_1 := blk_frozen BK154.out 1
                        have hfz33_2 := blk_frozen BK154.out 2
                        have hfz33_3 := blk_frozen BK154.out 3
                        have hfz33_4 := blk_frozen BK154.out 4
                        have hcz34_0 : w11.cell? ⟨gb155, 0, none⟩ = some (.int .i64 0) := (blk_cell BK155.out 0).trans rfl
                        have hcz34_1 : w11.cell? ⟨gb155, 1, none⟩ = some (.string (⟨#[]⟩ : ByteArray)) := (blk_cell BK155.out 1).trans rfl
                        have hcz34_2 : w11.cell? ⟨gb155, 2, none⟩ = some (.int .i64 0) := (blk_cell BK155.out 2).trans rfl
                        have hcz34_3 : w11.cell? ⟨gb155, 3, none⟩ = some (.slice none 0 0) := (blk_cell BK155.out 3).trans rfl
                        have hcz34_4 : w11.cell? ⟨gb155, 4, none⟩ = some (.bool false) := (blk_cell BK155.out 4).trans rfl
                        have hfz34_0 := blk_frozen BK155.out 0
                        have hfz34_1 := blk_frozen BK155.out 1
                        have hfz34_2 := blk_frozen BK155.out 2
                        have hfz34_3 := blk_frozen BK155.out 3
                        have hfz34_4 := blk_frozen BK155.out 4
                        go_wp2
                        go_meet
                        case rel => exact ⟨_, (true), (by first | rfl | (simp; done) | (simp [*]; done)), H', ⟨by have := HK1.out; first | omega | exact Nat.le_refl _⟩, ⟨by (with_reducible repeat (first | refine blk_drewN ?_ _ | refine blk_drew ?_ | refine blk_alloc ?_ _)); refine blk_far ?_ NB154_155.out _; (with_reducible repeat (first | refine blk_drewN ?_ _ | refine blk_drew ?_ | refine blk_alloc ?_ _)); refine blk_far ?_ NB154_155.out _; (with_reducible repeat (first | refine blk_drewN ?_ _ | refine blk_drew ?_ | refine blk_alloc ?_ _)); refine blk_far ?_ NB154_155.out _; (with_reducible repeat (first | refine blk_drewN ?_ _ | refine blk_drew ?_ | refine blk_alloc ?_ _)); refine blk_far ?_ NB154_155.out _; (with_reducible repeat (first | refine blk_drewN ?_ _ | refine blk_drew ?_ | refine blk_alloc ?_ _)); refine blk_far ?_ NB154_155.out _; (with_reducible repeat (first | refine blk_drewN ?_ _ | refine blk_drew ?_ | refine blk_alloc ?_ _)); refine blk_put (cs := #[.int .i64 ((rd_T71 l0 x5_1).f0), .string ((rd_T71 l0 x5_1).f1.f0), .int .i64 ((rd_T71 l0 x5_1).f1.f1), .slice A152_3 ((rd_T71 l0 x5_1).f1.f2).length c152_3, .bool false]) ?_ 4 _ rfl; (with_reducible repeat (first | refine blk_drewN ?_ _ | refine blk_drew ?_ | refine blk_alloc ?_ _)); refine blk_put (cs := #[.int .i64 ((rd_T71 l0 x5_1).f0), .string ((rd_T71 l0 x5_1).f1.f0), .int .i64 ((rd_T71 l0 x5_1).f1.f1), .slice none 0 0, .bool false]) ?_ 3 _ rfl; (with_reducible repeat (first | refine blk_drewN ?_ _ | refine blk_drew ?_ | refine blk_alloc ?_ _)); refine blk_put (cs := #[.int .i64 ((rd_T71 l0 x5_1).f0), .string ((rd_T71 l0 x5_1).f1.f0), .int .i64 0, .slice none 0 0, .bool false]) ?_ 2 _ rfl; (with_reducible repeat (first | refine blk_drewN ?_ _ | refine blk_drew ?_ | refine blk_alloc ?_ _)); refine blk_put (cs := #[.int .i64 ((rd_T71 l0 x5_1).f0), .string (⟨#[]⟩ : ByteArray), .int .i64 0, .slice none 0 0, .bool false]) ?_ 1 _ rfl; (with_reducible repeat (first | refine blk_drewN ?_ _ | refine blk_drew ?_ | refine blk_alloc ?_ _)); refine blk_put (cs := #[.int .i64 0, .string (⟨#[]⟩ : ByteArray), .int .i64 0, .slice none 0 0, .bool false]) ?_ 0 _ rfl; (with_reducible repeat (first | refine blk_drewN ?_ _ | refine blk_drew ?_ | refine blk_alloc ?_ _)); exact BK154.out⟩, ⟨by (with_reducible repeat (first | refine blk_drewN ?_ _ | refine blk_drew ?_ | refine blk_alloc ?_ _)); refine blk_put (cs := #[.int .i64 ((rd_T71 l1 x5_1).f0), .string ((rd_T71 l1 x5_1).f1.f0), .int .i64 ((rd_T71 l1 x5_1).f1.f1), .slice A153_3 ((rd_T71 l1 x5_1).f1.f2).length c153_3, .bool false]) ?_ 4 _ rfl; (with_reducible repeat (first | refine blk_drewN ?_ _ | refine blk_drew ?_ | refine blk_alloc ?_ _)); refine blk_put (cs := #[.int .i64 ((rd_T71 l1 x5_1).f0), .string ((rd_T71 l1 x5_1).f1.f0), .int .i64 ((rd_T71 l1 x5_1).f1.f1), .slice none 0 0, .bool false]) ?_ 3 _ rfl; (with_reducible repeat (first | refine blk_drewN ?_ _ | refine blk_drew ?_ | refine blk_alloc ?_ _)); refine blk_put (cs := #[.int .i64 ((rd_T71 l1 x5_1).f0), .string ((rd_T71 l1 x5_1).f1.f0), .int .i64 0, .slice none 0 0, .bool false]) ?_ 2 _ rfl; (with_reducible repeat (first | refine blk_drewN ?_ _ | refine blk_drew ?_ | refine blk_alloc ?_ _)); refine blk_put (cs := #[.int .i64 ((rd_T71 l1 x5_1).f0), .string (⟨#[]⟩ : ByteArray), .int .i64 0, .slice none 0 0, .bool false]) ?_ 1 _ rfl; (with_reducible repeat (first | refine blk_drewN ?_ _ | refine blk_drew ?_ | refine blk_alloc ?_ _)); refine blk_put (cs := #[.int .i64 0, .string (⟨#[]⟩ : ByteArray), .int .i64 0, .slice none 0 0, .bool false]) ?_ 0 _ rfl; (with_reducible repeat (first | refine blk_drewN ?_ _ | refine blk_drew ?_ | refine blk_alloc ?_ _)); refine blk_far ?_ NB155_154.out _; (with_reducible repeat (first | refine blk_drewN ?_ _ | refine blk_drew ?_ | refine blk_alloc ?_ _)); refine blk_far ?_ NB155_154.out _; (with_reducible repeat (first | refine blk_drewN ?_ _ | refine blk_drew ?_ | refine blk_alloc ?_ _)); refine blk_far ?_ NB155_154.out _; (with_reducible repeat (first | refine blk_drewN ?_ _ | refine blk_drew ?_ | refine blk_alloc ?_ _)); refine blk_far ?_ NB155_154.out _; (with_reducible repeat (first | refine blk_drewN ?_ _ | refine blk_drew ?_ | refine blk_alloc ?_ _)); refine blk_far ?_ NB155_154.out _; (with_reducible repeat (first | refine blk_drewN ?_ _ | refine blk_drew ?_ | refine blk_alloc ?_ _)); exact BK155.out⟩, ⟨by repeat (first | (with_reducible first | exact HB.out | apply below_alloc | apply pw_below_drewN | apply below_drew1 | refine below_set ?_ GE154.out | refine below_set ?_ GE155.out) | exact HB.out)⟩⟩
                    · rw [if_neg c27] at H
                      have c27b0 : (((rd_T71 l0 x5_1).f1.f0).toList == ((rd_T71 l1 x5_1).f1.f0).toList) = false := beq_eq_false_iff_ne.mpr c27
                      have c27b1 : (((rd_T71 l0 x5_1).f1.f0).toList != ((rd_T71 l1 x5_1).f1.f0).toList) = true := bne_iff_ne.mpr c27
                      have H' := Aside0.mk H
                      clear H
                      have hnb35 := NB154_155.out
                      have hnc35 := NB155_154.out
                      have hcz36_0 : w11.cell? ⟨gb154, 0, none⟩ = some (.int .i64 0) := (blk_cell BK154.out 0).trans rfl
                      have hcz36_1 : w11.cell? ⟨gb154, 1, none⟩ = some (.string (⟨#[]⟩ : ByteArray)) := (blk_cell BK154.out 1).trans rfl
                      have hcz36_2 : w11.cell? ⟨gb154, 2, none⟩ = some (.int .i64 0) := (blk_cell BK154.out 2).trans rfl
                      have hcz36_3 : w11.cell? ⟨gb154, 3, none⟩ = some (.slice none 0 0) := (blk_cell BK154.out 3).trans rfl
                      have hcz36_4 : w11.cell? ⟨gb154, 4, none⟩ = some (.bool false) := (blk_cell BK154.out 4).trans rfl
                      have hfz36_0 := blk_frozen BK154.out 0
                      have hfz36_1 := blk_frozen BK154.out 1
                      have hfz36_2 := blk_frozen BK154.out 2
                      have hfz36_3 := blk_frozen BK154.out 3
                      have hfz36_4 := blk_frozen BK154.out 4
                      have hcz37_0 : w11.cell? ⟨gb155, 0, none⟩ = some (.int .i64 0) := (blk_cell BK155.out 0).trans rfl
                      have hcz37_1 : w11.cell? ⟨gb155, 1, none⟩ = some (.string (⟨#[]⟩ : ByteArray)) := (blk_cell BK155.out 1).trans rfl
                      have hcz37_2 : w11.cell? ⟨gb155, 2, none⟩ = some (.int .i64 0) := (blk_cell BK155.out 2).trans rfl
                      have hcz37_3 : w11.cell? ⟨gb155, 3, none⟩ = some (.slice none 0 0) := (blk_cell BK155.out 3).trans rfl
                      have hcz37_4 : w11.cell? ⟨gb155, 4, none⟩ = some (.bool false) := (blk_cell BK155.out 4).trans rfl
                      have hfz37_0 := blk_frozen BK155.out 0
                      have hfz37_1 := blk_frozen BK155.out 1
                      have hfz37_2 := blk_frozen BK155.out 2
                      have hfz37_3 := blk_frozen BK155.out 3
                      have hfz37_4 := blk_frozen BK155.out 4
                      go_wp2
                      go_meet
                      case rel => exact ⟨_, (true), (by first | rfl | (simp; done) | (simp [*]; done)), H', ⟨by have := HK1.out; first | omega | exact Nat.le_refl _⟩, ⟨by (with_reducible repeat (first | refine blk_drewN ?_ _ | refine blk_drew ?_ | refine blk_alloc ?_ _)); refine blk_far ?_ NB154_155.out _; (with_reducible repeat (first | refine blk_drewN ?_ _ | refine blk_drew ?_ | refine blk_alloc ?_ _)); refine blk_far ?_ NB154_155.out _; (with_reducible repeat (first | refine blk_drewN ?_ _ | refine blk_drew ?_ | refine blk_alloc ?_ _)); refine blk_far ?_ NB154_155.out _; (with_reducible repeat (first | refine blk_drewN ?_ _ | refine blk_drew ?_ | refine blk_alloc ?_ _)); refine blk_far ?_ NB154_155.out _; (with_reducible repeat (first | refine blk_drewN ?_ _ | refine blk_drew ?_ | refine blk_alloc ?_ _)); refine blk_far ?_ NB154_155.out _; (with_reducible repeat (first | refine blk_drewN ?_ _ | refine blk_drew ?_ | refine blk_alloc ?_ _)); refine blk_put (cs := #[.int .i64 ((rd_T71 l0 x5_1).f0), .string ((rd_T71 l0 x5_1).f1.f0), .int .i64 ((rd_T71 l0 x5_1).f1.f1), .slice A152_3 ((rd_T71 l0 x5_1).f1.f2).length c152_3, .bool false]) ?_ 4 _ rfl; (with_reducible repeat (first | refine blk_drewN ?_ _ | refine blk_drew ?_ | refine blk_alloc ?_ _)); refine blk_put (cs := #[.int .i64 ((rd_T71 l0 x5_1).f0), .string ((rd_T71 l0 x5_1).f1.f0), .int .i64 ((rd_T71 l0 x5_1).f1.f1), .slice none 0 0, .bool false]) ?_ 3 _ rfl; (with_reducible repeat (first | refine blk_drewN ?_ _ | refine blk_drew ?_ | refine blk_alloc ?_ _)); refine blk_put (cs := #[.int .i64 ((rd_T71 l0 x5_1).f0), .string ((rd_T71 l0 x5_1).f1.f0), .int .i64 0, .slice none 0 0, .bool false]) ?_ 2 _ rfl; (with_reducible repeat (first | refine blk_drewN ?_ _ | refine blk_drew ?_ | refine blk_alloc ?_ _)); refine blk_put (cs := #[.int .i64 ((rd_T71 l0 x5_1).f0), .string (⟨#[]⟩ : ByteArray), .int .i64 0, .slice none 0 0, .bool false]) ?_ 1 _ rfl; (with_reducible repeat (first | refine blk_drewN ?_ _ | refine blk_drew ?_ | refine blk_alloc ?_ _)); refine blk_put (cs := #[.int .i64 0, .string (⟨#[]⟩ : ByteArray), .int .i64 0, .slice none 0 0, .bool false]) ?_ 0 _ rfl; (with_reducible repeat (first | refine blk_drewN ?_ _ | refine blk_drew ?_ | refine blk_alloc ?_ _)); exact BK154.out⟩, ⟨by (with_reducible repeat (first | refine blk_drewN ?_ _ | refine blk_drew ?_ | refine blk_alloc ?_ _)); refine blk_put (cs := #[.int .i64 ((rd_T71 l1 x5_1).f0), .string ((rd_T71 l1 x5_1).f1.f0), .int .i64 ((rd_T71 l1 x5_1).f1.f1), .slice A153_3 ((rd_T71 l1 x5_1).f1.f2).length c153_3, .bool false]) ?_ 4 _ rfl; (with_reducible repeat (first | refine blk_drewN ?_ _ | refine blk_drew ?_ | refine blk_alloc ?_ _)); refine blk_put (cs := #[.int .i64 ((rd_T71 l1 x5_1).f0), .string ((rd_T71 l1 x5_1).f1.f0), .int .i64 ((rd_T71 l1 x5_1).f1.f1), .slice none 0 0, .bool false]) ?_ 3 _ rfl; (with_reducible repeat (first | refine blk_drewN ?_ _ | refine blk_drew ?_ | refine blk_alloc ?_ _)); refine blk_put (cs := #[.int .i64 ((rd_T71 l1 x5_1).f0), .string ((rd_T71 l1 x5_1).f1.f0), .int .i64 0, .slice none 0 0, .bool false]) ?_ 2 _ rfl; (with_reducible repeat (first | refine blk_drewN ?_ _ | refine blk_drew ?_ | refine blk_alloc ?_ _)); refine blk_put (cs := #[.int .i64 ((rd_T71 l1 x5_1).f0), .string (⟨#[]⟩ : ByteArray), .int .i64 0, .slice none 0 0, .bool false]) ?_ 1 _ rfl; (with_reducible repeat (first | refine blk_drewN ?_ _ | refine blk_drew ?_ | refine blk_alloc ?_ _)); refine blk_put (cs := #[.int .i64 0, .string (⟨#[]⟩ : ByteArray), .int .i64 0, .slice none 0 0, .bool false]) ?_ 0 _ rfl; (with_reducible repeat (first | refine blk_drewN ?_ _ | refine blk_drew ?_ | refine blk_alloc ?_ _)); refine blk_far ?_ NB155_154.out _; (with_reducible repeat (first | refine blk_drewN ?_ _ | refine blk_drew ?_ | refine blk_alloc ?_ _)); refine blk_far ?_ NB155_154.out _; (with_reducible repeat (first | refine blk_drewN ?_ _ | refine blk_drew ?_ | refine blk_alloc ?_ _)); refine blk_far ?_ NB155_154.out _; (with_reducible repeat (first | refine blk_drewN ?_ _ | refine blk_drew ?_ | refine blk_alloc ?_ _)); refine blk_far ?_ NB155_154.out _; (with_reducible repeat (first | refine blk_drewN ?_ _ | refine blk_drew ?_ | refine blk_alloc ?_ _)); refine blk_far ?_ NB155_154.out _; (with_reducible repeat (first | refine blk_drewN ?_ _ | refine blk_drew ?_ | refine blk_alloc ?_ _)); exact BK155.out⟩, ⟨by repeat (first | (with_reducible first | exact HB.out | apply below_alloc | apply pw_below_drewN | apply below_drew1 | refine below_set ?_ GE154.out | refine below_set ?_ GE155.out) | exact HB.out)⟩⟩
                · rw [if_neg c22] at H
                  have c22b0 : (((rd_T71 l0 x5_1).f0) == ((rd_T71 l1 x5_1).f0)) = false := beq_eq_false_iff_ne.mpr c22
                  have c22b1 : (((rd_T71 l0 x5_1).f0) != ((rd_T71 l1 x5_1).f0)) = true := bne_iff_ne.mpr c22
                  (first | rw [c22b0] | (simp only [i64_w, i32_w]; rw [c22b0]) | skip)
                  have H' := Aside0.mk H
                  clear H
                  have hnb38 := NB154_155.out
                  have hnc38 := NB155_154.out
                  have hcz39_0 : w11.cell? ⟨gb154, 0, none⟩ = some (.int .i64 0) := (blk_cell BK154.out 0).trans rfl
                  have hcz39_1 : w11.cell? ⟨gb154, 1, none⟩ = some (.string (⟨#[]⟩ : ByteArray)) := (blk_cell BK154.out 1).trans rfl
                  have hcz39_2 : w11.cell? ⟨gb154, 2, none⟩ = some (.int .i64 0) := (blk_cell BK154.out 2).trans rfl
                  have hcz39_3 : w11.cell? ⟨gb154, 3, none⟩ = some (.slice none 0 0) := (blk_cell BK154.out 3).trans rfl
                  have hcz39_4 : w11.cell? ⟨gb154, 4, none⟩ = some (.bool false) := (blk_cell BK154.out 4).trans rfl
                  have hfz39_0 := blk_frozen BK154.out 0
                  have hfz39_1 := blk_frozen BK154.out 1
                  have hfz39_2 := blk_frozen BK154.out 2
                  have hfz39_3 := blk_frozen BK154.out 3
                  have hfz39_4 := blk_frozen BK154.out 4
                  have hcz40_0 : w11.cell? ⟨gb155, 0, none⟩ = some (.int .i64 0) := (blk_cell BK155.out 0).trans rfl
                  have hcz40_1 : w11.cell? ⟨gb155, 1, none⟩ = some (.string (⟨#[]⟩ : ByteArray)) := (blk_cell BK155.out 1).trans rfl
                  have hcz40_2 : w11.cell? ⟨gb155, 2, none⟩ = some (.int .i64 0) := (blk_cell BK155.out 2).trans rfl
                  have hcz40_3 : w11.cell? ⟨gb155, 3, none⟩ = some (.slice none 0 0) := (blk_cell BK155.out 3).trans rfl
                  have hcz40_4 : w11.cell? ⟨gb155, 4, none⟩ = some (.bool false) := (blk_cell BK155.out 4).trans rfl
                  have hfz40_0 := blk_frozen BK155.out 0
                  have hfz40_1 := blk_frozen BK155.out 1
                  have hfz40_2 := blk_frozen BK155.out 2
                  have hfz40_3 := blk_frozen BK155.out 3
                  have hfz40_4 := blk_frozen BK155.out 4
                  go_wp2
                  go_meet
                  case rel => exact ⟨_, (true), (by first | rfl | (simp; done) | (simp [*]; done)), H', ⟨by have := HK1.out; first | omega | exact Nat.le_refl _⟩, ⟨by (with_reducible repeat (first | refine blk_drewN ?_ _ | refine blk_drew ?_ | refine blk_alloc ?_ _)); refine blk_far ?_ NB154_155.out _; (with_reducible repeat (first | refine blk_drewN ?_ _ | refine blk_drew ?_ | refine blk_alloc ?_ _)); refine blk_far ?_ NB154_155.out _; (with_reducible repeat (first | refine blk_drewN ?_ _ | refine blk_drew ?_ | refine blk_alloc ?_ _)); refine blk_far ?_ NB154_155.out _; (with_reducible repeat (first | refine blk_drewN ?_ _ | refine blk_drew ?_ | refine blk_alloc ?_ _)); refine blk_far ?_ NB154_155.out _; (with_reducible repeat (first | refine blk_drewN ?_ _ | refine blk_drew ?_ | refine blk_alloc ?_ _)); refine blk_far ?_ NB154_155.out _; (with_reducible repeat (first | refine blk_drewN ?_ _ | refine blk_drew ?_ | refine blk_alloc ?_ _)); refine blk_put (cs := #[.int .i64 ((rd_T71 l0 x5_1).f0), .string ((rd_T71 l0 x5_1).f1.f0), .int .i64 ((rd_T71 l0 x5_1).f1.f1), .slice A152_3 ((rd_T71 l0 x5_1).f1.f2).length c152_3, .bool false]) ?_ 4 _ rfl; (with_reducible repeat (first | refine blk_drewN ?_ _ | refine blk_drew ?_ | refine blk_alloc ?_ _)); refine blk_put (cs := #[.int .i64 ((rd_T71 l0 x5_1).f0), .string ((rd_T71 l0 x5_1).f1.f0), .int .i64 ((rd_T71 l0 x5_1).f1.f1), .slice none 0 0, .bool false]) ?_ 3 _ rfl; (with_reducible repeat (first | refine blk_drewN ?_ _ | refine blk_drew ?_ | refine blk_alloc ?_ _)); refine blk_put (cs := #[.int .i64 ((rd_T71 l0 x5_1).f0), .string ((rd_T71 l0 x5_1).f1.f0), .int .i64 0, .slice none 0 0, .bool false]) ?_ 2 _ rfl; (with_reducible repeat (first | refine blk_drewN ?_ _ | refine blk_drew ?_ | refine blk_alloc ?_ _)); refine blk_put (cs := #[.int .i64 ((rd_T71 l0 x5_1).f0), .string (⟨#[]⟩ : ByteArray), .int .i64 0, .slice none 0 0, .bool false]) ?_ 1 _ rfl; (with_reducible repeat (first | refine blk_drewN ?_ _ | refine blk_drew ?_ | refine blk_alloc ?_ _)); refine blk_put (cs := #[.int .i64 0, .string (⟨#[]⟩ : ByteArray), .int .i64 0, .slice none 0 0, .bool false]) ?_ 0 _ rfl; (with_reducible repeat (first | refine blk_drewN ?_ _ | refine blk_drew ?_ | refine blk_alloc ?_ _)); exact BK154.out⟩, ⟨by (with_reducible repeat (first | refine blk_drewN ?_ _ | refine blk_drew ?_ | refine blk_alloc ?_ _)); refine blk_put (cs := #[.int .i64 ((rd_T71 l1 x5_1).f0), .string ((rd_T71 l1 x5_1).f1.f0), .int .i64 ((rd_T71 l1 x5_1).f1.f1), .slice A153_3 ((rd_T71 l1 x5_1).f1.f2).length c153_3, .bool false]) ?_ 4 _ rfl; (with_reducible repeat (first | refine blk_drewN ?_ _ | refine blk_drew ?_ | refine blk_alloc ?_ _)); refine blk_put (cs := #[.int .i64 ((rd_T71 l1 x5_1).f0), .string ((rd_T71 l1 x5_1).f1.f0), .int .i64 ((rd_T71 l1 x5_1).f1.f1), .slice none 0 0, .bool false]) ?_ 3 _ rfl; (with_reducible repeat (first | refine blk_drewN ?_ _ | refine blk_drew ?_ | refine blk_alloc ?_ _)); refine blk_put (cs := #[.int .i64 ((rd_T71 l1 x5_1).f0), .string ((rd_T71 l1 x5_1).f1.f0), .int .i64 0, .slice none 0 0, .bool false]) ?_ 2 _ rfl; (with_reducible repeat (first | refine blk_drewN ?_ _ | refine blk_drew ?_ | refine blk_alloc ?_ _)); refine blk_put (cs := #[.int .i64 ((rd_T71 l1 x5_1).f0), .string (⟨#[]⟩ : ByteArray), .int .i64 0, .slice none 0 0, .bool false]) ?_ 1 _ rfl; (with_reducible repeat (first | refine blk_drewN ?_ _ | refine blk_drew ?_ | refine blk_alloc ?_ _)); refine blk_put (cs := #[.int .i64 0, .string (⟨#[]⟩ : ByteArray), .int .i64 0, .slice none 0 0, .bool false]) ?_ 0 _ rfl; (with_reducible repeat (first | refine blk_drewN ?_ _ | refine blk_drew ?_ | refine blk_alloc ?_ _)); refine blk_far ?_ NB155_154.out _; (with_reducible repeat (first | refine blk_drewN ?_ _ | refine blk_drew ?_ | refine blk_alloc ?_ _)); refine blk_far ?_ NB155_154.out _; (with_reducible repeat (first | refine blk_drewN ?_ _ | refine blk_drew ?_ | refine blk_alloc ?_ _)); refine blk_far ?_ NB155_154.out _; (with_reducible repeat (first | refine blk_drewN ?_ _ | refine blk_drew ?_ | refine blk_alloc ?_ _)); refine blk_far ?_ NB155_154.out _; (with_reducible repeat (first | refine blk_drewN ?_ _ | refine blk_drew ?_ | refine blk_alloc ?_ _)); refine blk_far ?_ NB155_154.out _; (with_reducible repeat (first | refine blk_drewN ?_ _ | refine blk_drew ?_ | refine blk_alloc ?_ _)); exact BK155.out⟩, ⟨by repeat (first | (with_reducible first | exact HB.out | apply below_alloc | apply pw_below_drewN | apply below_drew1 | refine below_set ?_ GE154.out | refine below_set ?_ GE155.out) | exact HB.out)⟩⟩
              case rest =>
                clear HC7
                try clear c1
                try clear p1
                try clear q1
                try clear hx1
                try clear c2
                try clear p2
                try clear c3
                try clear c3b0
                try clear c3b1
                try clear c3b2
                try clear c4
                try clear c4b0
                try clear c5
                try clear c5b0
                try clear c6
                try clear c6b0
                try clear c15
                try clear p15
                try clear q15
                try clear hx15
                try clear c16
                try clear c22
                try clear c22b0
                try clear c22b1
                try clear c23
                try clear c23b0
                try clear c23b1
                try clear c23b2
                try clear c24
                try clear c27
                try clear c27b0
                try clear c27b1
                try clear c28
                try clear c28b0
                try clear c28b1
                try clear c29
                try clear c32
                try clear c35
                try clear c38
                try clear hcz25_0
                try clear hcz25_1
                try clear hcz25_2
                try clear hcz25_3
                try clear hcz25_4
                try clear hcz26_0
                try clear hcz26_1
                try clear hcz26_2
                try clear hcz26_3
                try clear hcz26_4
                try clear hcz30_0
                try clear hcz30_1
                try clear hcz30_2
                try clear hcz30_3
                try clear hcz30_4
                try clear hcz31_0
                try clear hcz31_1
                try clear hcz31_2
                try clear hcz31_3
                try clear hcz31_4
                try clear hcz33_0
                try clear hcz33_1
                try clear hcz33_2
                try clear hcz33_3
                try clear hcz33_4
                try clear hcz34_0
                try clear hcz34_1
                try clear hcz34_2
                try clear hcz34_3
                try clear hcz34_4
                try clear hcz36_0
                try clear hcz36_1
                try clear hcz36_2
                try clear hcz36_3
                try clear hcz36_4
                try clear hcz37_0
                try clear hcz37_1
                try clear hcz37_2
                try clear hcz37_3
                try clear hcz37_4
                try clear hcz39_0
                try clear hcz39_1
                try clear hcz39_2
                try clear hcz39_3
                try clear hcz39_4
                try clear hcz40_0
                try clear hcz40_1
                try clear hcz40_2
                try clear hcz40_3
                try clear hcz40_4
                try clear hfz25_0
                try clear hfz25_1
                try clear hfz25_2
                try clear hfz25_3
                try clear hfz25_4
                try clear hfz26_0
                try clear hfz26_1
                try clear hfz26_2
                try clear hfz26_3
                try clear hfz26_4
                try clear hfz30_0
                try clear hfz30_1
                try clear hfz30_2
                try clear hfz30_3
                try clear hfz30_4
                try clear hfz31_0
                try clear hfz31_1
                try clear hfz31_2
                try clear hfz31_3
                try clear hfz31_4
                try clear hfz33_0
                try clear hfz33_1
                try clear hfz33_2
                try clear hfz33_3
                try clear hfz33_4
                try clear hfz34_0
                try clear hfz34_1
                try clear hfz34_2
                try clear hfz34_3
                try clear hfz34_4
                try clear hfz36_0
                try clear hfz36_1
                try clear hfz36_2
                try clear hfz36_3
                try clear hfz36_4
                try clear hfz37_0
                try clear hfz37_1
                try clear hfz37_2
                try clear hfz37_3
                try clear hfz37_4
                try clear hfz39_0
                try clear hfz39_1
                try clear hfz39_2
                try clear hfz39_3
                try clear hfz39_4
                try clear hfz40_0
                try clear hfz40_1
                try clear hfz40_2
                try clear hfz40_3
                try clear hfz40_4
                try clear hx152_0
                try clear hx152_1
                try clear hx152_2
                try clear hx152_3
                try clear hx152_4
                try clear hx153_0
                try clear hx153_1
                try clear hx153_2
                try clear hx153_3
                try clear hx153_4
                try clear p152
                try clear p153
                try clear p2
                try clear q152
                try clear q153
                obtain ⟨kq, x68_6, rfl, HA, HJ6, BK154, BK155, HB⟩ := hcut
                cases kq with
                | zero => exact absurd HA.out (by simp [refrainlaw22_events.j1])
                | succ kj6 =>
                  have H := HA.out
                  clear HA
                  simp only [refrainlaw22_events.j1] at H
                  by_cases c41 : x68_6 = true
                  · subst c41
                    have H1 : (some false) = some r := by rw [if_pos rfl] at H; exact H
                    clear H
                    have H := H1
                    clear H1
                    obtain rfl := Option.some.inj H
                    go_wp2
                    go_ret
                    exact ⟨by first | rfl | (simp [errW_none, errW_some] <;> rfl) | (simp [*, errW_none, errW_some] <;> rfl), by repeat (first | (with_reducible first | exact HB.out | apply below_alloc | apply pw_below_drewN | apply below_drew1 | refine below_set ?_ GE154.out | refine below_set ?_ GE155.out) | exact HB.out)⟩
                  · replace c41 := Bool.eq_false_iff.mpr c41
                    subst c41
                    have H1 : (refrainlaw22_events.l1 kj6 l0 l1 x5_1 0 ((rd_T71 l0 x5_1).f0) ((rd_T71 l0 x5_1).f1.f0) ((rd_T71 l0 x5_1).f1.f1) ((rd_T71 l0 x5_1).f1.f2) ((rd_T71 l0 x5_1).f2) ((rd_T71 l1 x5_1).f0) ((rd_T71 l1 x5_1).f1.f0) ((rd_T71 l1 x5_1).f1.f1) ((rd_T71 l1 x5_1).f1.f2) ((rd_T71 l1 x5_1).f2)) = some r := by rw [if_neg (show ¬ (false = true) by decide)] at H; exact H
                    clear H
                    have H := H1
                    clear H1
                    have H' := Aside0.mk H
                    clear H
                    go_wp2
                    go_loopg [8] kj6 (fun kq v8 w' => ∃ (x8_3 : Int), v8 = .int .i64 x8_3 ∧ Aside0 (refrainlaw22_events.l1 kq l0 l1 x5_1 x8_3 ((rd_T71 l0 x5_1).f0) ((rd_T71 l0 x5_1).f1.f0) ((rd_T71 l0 x5_1).f1.f1) ((rd_T71 l0 x5_1).f1.f2) ((rd_T71 l0 x5_1).f2) ((rd_T71 l1 x5_1).f0) ((rd_T71 l1 x5_1).f1.f0) ((rd_T71 l1 x5_1).f1.f1) ((rd_T71 l1 x5_1).f1.f2) ((rd_T71 l1 x5_1).f2) = some r) ∧ Aside0 (kq ≤ kj6) ∧ Aside0 (w'.heap[gb154]? = some (.cells #[.int .i64 ((rd_T71 l0 x5_1).f0), .string ((rd_T71 l0 x5_1).f1.f0), .int .i64 ((rd_T71 l0 x5_1).f1.f1), (.slice A152_3 ((rd_T71 l0 x5_1).f1.f2).length c152_3), .bool ((rd_T71 l0 x5_1).f2)] 71 (0, 0))) ∧ Aside0 (w'.heap[gb155]? = some (.cells #[.int .i64 ((rd_T71 l1 x5_1).f0), .string ((rd_T71 l1 x5_1).f1.f0), .int .i64 ((rd_T71 l1 x5_1).f1.f1), (.slice A153_3 ((rd_T71 l1 x5_1).f1.f2).length c153_3), .bool ((rd_T71 l1 x5_1).f2)] 71 (0, 0))) ∧ Aside0 (Below w.heap.size w w'))
                    case atStart => exact ⟨(0), (by first | rfl | (simp; done) | (simp [*]; done)), H', ⟨Nat.le_refl _⟩, ⟨by (with_reducible repeat (first | refine blk_drewN ?_ _ | refine blk_drew ?_ | refine blk_alloc ?_ _)); exact BK154.out⟩, ⟨by (with_reducible repeat (first | refine blk_drewN ?_ _ | refine blk_drew ?_ | refine blk_alloc ?_ _)); exact BK155.out⟩, ⟨by repeat (first | (with_reducible first | exact HB.out | apply below_alloc | apply pw_below_drewN | apply below_drew1 | refine below_set ?_ GE154.out | refine below_set ?_ GE155.out) | exact HB.out)⟩⟩
                    case round =>
                      clear H'
                      try clear c1
                      try clear p1
                      try clear q1
                      try clear hx1
                      try clear c2
                      try clear p2
                      try clear c3
                      try clear c3b0
                      try clear c3b1
                      try clear c3b2
                      try clear c4
                      try clear c4b0
                      try clear c5
                      try clear c5b0
                      try clear c6
                      try clear c6b0
                      try clear c15
                      try clear p15
                      try clear q15
                      try clear hx15
                      try clear c16
                      try clear c22
                      try clear c22b0
                      try clear c22b1
                      try clear c23
                      try clear c23b0
                      try clear c23b1
                      try clear c23b2
                      try clear c24
                      try clear c27
                      try clear c27b0
                      try clear c27b1
                      try clear c28
                      try clear c28b0
                      try clear c28b1
                      try clear c29
                      try clear c32
                      try clear c35
                      try clear c38
                      try clear c41
                      try clear hcz25_0
                      try clear hcz25_1
                      try clear hcz25_2
                      try clear hcz25_3
                      try clear hcz25_4
                      try clear hcz26_0
                      try clear hcz26_1
                      try clear hcz26_2
                      try clear hcz26_3
                      try clear hcz26_4
                      try clear hcz30_0
                      try clear hcz30_1
                      try clear hcz30_2
                      try clear hcz30_3
                      try clear hcz30_4
                      try clear hcz31_0
                      try clear hcz31_1
                      try clear hcz31_2
                      try clear hcz31_3
                      try clear hcz31_4
                      try clear hcz33_0
                      try clear hcz33_1
                      try clear hcz33_2
                      try clear hcz33_3
                      try clear hcz33_4
                      try clear hcz34_0
                      try clear hcz34_1
                      try clear hcz34_2
                      try clear hcz34_3
                      try clear hcz34_4
                      try clear hcz36_0
                      try clear hcz36_1
                      try clear hcz36_2
                      try clear hcz36_3
                      try clear hcz36_4
                      try clear hcz37_0
                      try clear hcz37_1
                      try clear hcz37_2
                      try clear hcz37_3
                      try clear hcz37_4
                      try clear hcz39_0
                      try clear hcz39_1
                      try clear hcz39_2
                      try clear hcz39_3
                      try clear hcz39_4
                      try clear hcz40_0
                      try clear hcz40_1
                      try clear hcz40_2
                      try clear hcz40_3
                      try clear hcz40_4
                      try clear hfz25_0
                      try clear hfz25_1
                      try clear hfz25_2
                      try clear hfz25_3
                      try clear hfz25_4
                      try clear hfz26_0
                      try clear hfz26_1
                      try clear hfz26_2
                      try clear hfz26_3
                      try clear hfz26_4
                      try clear hfz30_0
                      try clear hfz30_1
                      try clear hfz30_2
                      try clear hfz30_3
                      try clear hfz30_4
                      try clear hfz31_0
                      try clear hfz31_1
                      try clear hfz31_2
                      try clear hfz31_3
                      try clear hfz31_4
                      try clear hfz33_0
                      try clear hfz33_1
                      try clear hfz33_2
                      try clear hfz33_3
                      try clear hfz33_4
                      try clear hfz34_0
                      try clear hfz34_1
                      try clear hfz34_2
                      try clear hfz34_3
                      try clear hfz34_4
                      try clear hfz36_0
                      try clear hfz36_1
                      try clear hfz36_2
                      try clear hfz36_3
                      try clear hfz36_4
                      try clear hfz37_0
                      try clear hfz37_1
                      try clear hfz37_2
                      try clear hfz37_3
                      try clear hfz37_4
                      try clear hfz39_0
                      try clear hfz39_1
                      try clear hfz39_2
                      try clear hfz39_3
                      try clear hfz39_4
                      try clear hfz40_0
                      try clear hfz40_1
                      try clear hfz40_2
                      try clear hfz40_3
                      try clear hfz40_4
                      try clear hx152_0
                      try clear hx152_1
                      try clear hx152_2
                      try clear hx152_3
                      try clear hx152_4
                      try clear hx153_0
                      try clear hx153_1
                      try clear hx153_2
                      try clear hx153_3
                      try clear hx153_4
                      try clear p1
                      try clear p15
                      try clear p152
                      try clear p153
                      try clear p2
                      try clear q1
                      try clear q15
                      try clear q152
                      try clear q153
                      obtain ⟨x8_3, rfl, HA, HK3, BK154, BK155, HB⟩ := hrel
                      cases gk with
                      | zero => exact absurd HA.out (by simp [refrainlaw22_events.l1])
                      | succ k3 =>
                        have H := HA.out
                        clear HA
                        simp only [refrainlaw22_events.l1] at H
                        by_cases c42 : x8_3 < (((rd_T71 l0 x5_1).f1.f2).length : Int)
                        · rw [if_pos c42] at H
                          have c42b0 : decide (x8_3 < (((rd_T71 l0 x5_1).f1.f2).length : Int)) = true := decide_eq_true c42
                          clear c42
                          by_cases c43 : 0 ≤ x8_3
                          · rw [if_pos c43] at H
                            have c43b0 : decide (0 ≤ x8_3) = true := decide_eq_true c43
                            clear c43
                            by_cases c44 : x8_3 < (((rd_T71 l1 x5_1).f1.f2).length : Int)
                            · rw [if_pos c44] at H
                              have c44b0 : decide (x8_3 < (((rd_T71 l1 x5_1).f1.f2).length : Int)) = true := decide_eq_true c44
                              clear c44
                              by_cases c45 : (!(((rd_T66 ((rd_T71 l0 x5_1).f1.f2) x8_3).f0) == ((rd_T66 ((rd_T71 l1 x5_1).f1.f2) x8_3).f0)) || (!(((rd_T66 ((rd_T71 l0 x5_1).f1.f2) x8_3).f1) == ((rd_T66 ((rd_T71 l1 x5_1).f1.f2) x8_3).f1)) || (!((((rd_T66 ((rd_T71 l0 x5_1).f1.f2) x8_3).f2).toList) == (((rd_T66 ((rd_T71 l1 x5_1).f1.f2) x8_3).f2).toList)) || (!(((rd_T66 ((rd_T71 l0 x5_1).f1.f2) x8_3).f3) == ((rd_T66 ((rd_T71 l1 x5_1).f1.f2) x8_3).f3)))))) = true
                              · rw [if_pos c45] at H
                                have c45b0 : (!(((rd_T66 ((rd_T71 l0 x5_1).f1.f2) x8_3).f0) == ((rd_T66 ((rd_T71 l1 x5_1).f1.f2) x8_3).f0)) || (!(((rd_T66 ((rd_T71 l0 x5_1).f1.f2) x8_3).f1) == ((rd_T66 ((rd_T71 l1 x5_1).f1.f2) x8_3).f1)) || (!((((rd_T66 ((rd_T71 l0 x5_1).f1.f2) x8_3).f2).toList) == (((rd_T66 ((rd_T71 l1 x5_1).f1.f2) x8_3).f2).toList)) || (!(((rd_T66 ((rd_T71 l0 x5_1).f1.f2) x8_3).f3) == ((rd_T66 ((rd_T71 l1 x5_1).f1.f2) x8_3).f3)))))) = true := c45
                                clear c45
                                obtain rfl := Option.some.inj H
                                have hnb46 := NB154_155.out
                                have hnc46 := NB155_154.out
                                have hcz47_0 : wr.cell? ⟨gb154, 0, none⟩ = some (.int .i64 ((rd_T71 l0 x5_1).f0)) := (blk_cell BK154.out 0).trans rfl
                                have hcz47_1 : wr.cell? ⟨gb154, 1, none⟩ = some (.string ((rd_T71 l0 x5_1).f1.f0)) := (blk_cell BK154.out 1).trans rfl
                                have hcz47_2 : wr.cell? ⟨gb154, 2, none⟩ = some (.int .i64 ((rd_T71 l0 x5_1).f1.f1)) := (blk_cell BK154.out 2).trans rfl
                                have hcz47_3 : wr.cell? ⟨gb154, 3, none⟩ = some (.slice A152_3 ((rd_T71 l0 x5_1).f1.f2).length c152_3) := (blk_cell BK154.out 3).trans rfl
                                have hcz47_4 : wr.cell? ⟨gb154, 4, none⟩ = some (.bool ((rd_T71 l0 x5_1).f2)) := (blk_cell BK154.out 4).trans rfl
                                have hfz47_0 := blk_frozen BK154.out 0
                                have hfz47_1 := blk_frozen BK154.out 1
                                have hfz47_2 := blk_frozen BK154.out 2
                                have hfz47_3 := blk_frozen BK154.out 3
                                have hfz47_4 := blk_frozen BK154.out 4
                                try go_wp2
                                have n0_ := Aside0.mk (blk_drew BK154.out)
                                have n1_ := Aside0.mk (blk_drew BK155.out)
                                have n2_ := Aside0.mk (below_drew1 HB.out)
                                clear BK154
                                clear BK155
                                clear HB
                                have BK154 := n0_
                                have BK155 := n1_
                                have HB := n2_
                                clear n0_ n1_ n2_
                                have p156 : 0 ≤ (x8_3 : Int) := of_decide_eq_true (by first | (with_reducible assumption) | assumption)
                                have q156 : x8_3 < (((rd_T71 l0 x5_1).f1.f2).length : Int) := of_decide_eq_true (by first | (with_reducible assumption) | assumption)
                                obtain ⟨ad156, e156, hx156_0, hx156_1, hx156_2, hx156_3⟩ := at_T66 HR152_3.out x8_3 p156 q156
                                have hw156_3 := hx156_3
                                have hw156_2 := hx156_2
                                have hw156_1 := hx156_1
                                have hw156_0 := hx156_0
                                cases e156
                                replace hx156_0 := (HB.out.cell (World.block_lt_of_cell? w _ hx156_0)).trans hx156_0
                                replace hx156_1 := (HB.out.cell (World.block_lt_of_cell? w _ hx156_1)).trans hx156_1
                                replace hx156_2 := (HB.out.cell (World.block_lt_of_cell? w _ hx156_2)).trans hx156_2
                                replace hx156_3 := (HB.out.cell (World.block_lt_of_cell? w _ hx156_3)).trans hx156_3
                                replace p156 := eq_true p156
                                replace q156 := eq_true q156
                                have p157 : 0 ≤ (x8_3 : Int) := of_decide_eq_true (by first | (with_reducible assumption) | assumption)
                                have q157 : x8_3 < (((rd_T71 l1 x5_1).f1.f2).length : Int) := of_decide_eq_true (by first | (with_reducible assumption) | assumption)
                                obtain ⟨ad157, e157, hx157_0, hx157_1, hx157_2, hx157_3⟩ := at_T66 HR153_3.out x8_3 p157 q157
                                have hw157_3 := hx157_3
                                have hw157_2 := hx157_2
                                have hw157_1 := hx157_1
                                have hw157_0 := hx157_0
                                cases e157
                                replace hx157_0 := (HB.out.cell (World.block_lt_of_cell? w _ hx157_0)).trans hx157_0
                                replace hx157_1 := (HB.out.cell (World.block_lt_of_cell? w _ hx157_1)).trans hx157_1
                                replace hx157_2 := (HB.out.cell (World.block_lt_of_cell? w _ hx157_2)).trans hx157_2
                                replace hx157_3 := (HB.out.cell (World.block_lt_of_cell? w _ hx157_3)).trans hx157_3
                                replace p157 := eq_true p157
                                replace q157 := eq_true q157
                                refine start_ (n := 13) (S := fun w' => w'.cell? ⟨gb154, 0, none⟩ = some (.int .i64 ((rd_T71 l0 x5_1).f0)) ∧ w'.cell? ⟨gb154, 1, none⟩ = some (.string ((rd_T71 l0 x5_1).f1.f0)) ∧ w'.cell? ⟨gb154, 2, none⟩ = some (.int .i64 ((rd_T71 l0 x5_1).f1.f1)) ∧ w'.cell? ⟨gb154, 3, none⟩ = some (.slice (some ad156) ((rd_T71 l0 x5_1).f1.f2).length c152_3) ∧ w'.cell? ⟨gb154, 4, none⟩ = some (.bool ((rd_T71 l0 x5_1).f2)) ∧ w'.cell? ⟨gb155, 0, none⟩ = some (.int .i64 ((rd_T71 l1 x5_1).f0)) ∧ w'.cell? ⟨gb155, 1, none⟩ = some (.string ((rd_T71 l1 x5_1).f1.f0)) ∧ w'.cell? ⟨gb155, 2, none⟩ = some (.int .i64 ((rd_T71 l1 x5_1).f1.f1)) ∧ w'.cell? ⟨gb155, 3, none⟩ = some (.slice (some ad157) ((rd_T71 l1 x5_1).f1.f2).length c153_3) ∧ w'.cell? ⟨gb155, 4, none⟩ = some (.bool ((rd_T71 l1 x5_1).f2)) ∧ w'.cell? (ad156.add ((x8_3).toNat * 4)) = some (.int .i64 ((rd_T66 ((rd_T71 l0 x5_1).f1.f2) x8_3).f0)) ∧ w'.cell? ⟨(ad156.add ((x8_3).toNat * 4)).block, (ad156.add ((x8_3).toNat * 4)).off + 1, none⟩ = some (.int .i64 ((rd_T66 ((rd_T71 l0 x5_1).f1.f2) x8_3).f1)) ∧ w'.cell? ⟨(ad156.add ((x8_3).toNat * 4)).block, (ad156.add ((x8_3).toNat * 4)).off + 2, none⟩ = some (.string ((rd_T66 ((rd_T71 l0 x5_1).f1.f2) x8_3).f2)) ∧ w'.cell? ⟨(ad156.add ((x8_3).toNat * 4)).block, (ad156.add ((x8_3).toNat * 4)).off + 3, none⟩ = some (.bool ((rd_T66 ((rd_T71 l0 x5_1).f1.f2) x8_3).f3)) ∧ w'.cell? (ad157.add ((x8_3).toNat * 4)) = some (.int .i64 ((rd_T66 ((rd_T71 l1 x5_1).f1.f2) x8_3).f0)) ∧ w'.cell? ⟨(ad157.add ((x8_3).toNat * 4)).block, (ad157.add ((x8_3).toNat * 4)).off + 1, none⟩ = some (.int .i64 ((rd_T66 ((rd_T71 l1 x5_1).f1.f2) x8_3).f1)) ∧ w'.cell? ⟨(ad157.add ((x8_3).toNat * 4)).block, (ad157.add ((x8_3).toNat * 4)).off + 2, none⟩ = some (.string ((rd_T66 ((rd_T71 l1 x5_1).f1.f2) x8_3).f2)) ∧ w'.cell? ⟨(ad157.add ((x8_3).toNat * 4)).block, (ad157.add ((x8_3).toNat * 4)).off + 3, none⟩ = some (.bool ((rd_T66 ((rd_T71 l1 x5_1).f1.f2) x8_3).f3))) (ds := []) #[false, false, false, false, false, false, false, false, false, false, false, false, false] (by kernel_rfl) rfl rfl ⟨(blk_cell BK154.out 0).trans rfl, (blk_cell BK154.out 1).trans rfl, (blk_cell BK154.out 2).trans rfl, (blk_cell BK154.out 3).trans rfl, (blk_cell BK154.out 4).trans rfl, (blk_cell BK155.out 0).trans rfl, (blk_cell BK155.out 1).trans rfl, (blk_cell BK155.out 2).trans rfl, (blk_cell BK155.out 3).trans rfl, (blk_cell BK155.out 4).trans rfl, ((HB.out.cell (World.block_lt_of_cell? w _ hw156_0)).trans hw156_0), ((HB.out.cell (World.block_lt_of_cell? w _ hw156_1)).trans hw156_1), ((HB.out.cell (World.block_lt_of_cell? w _ hw156_2)).trans hw156_2), ((HB.out.cell (World.block_lt_of_cell? w _ hw156_3)).trans hw156_3), ((HB.out.cell (World.block_lt_of_cell? w _ hw157_0)).trans hw157_0), ((HB.out.cell (World.block_lt_of_cell? w _ hw157_1)).trans hw157_1), ((HB.out.cell (World.block_lt_of_cell? w _ hw157_2)).trans hw157_2), ((HB.out.cell (World.block_lt_of_cell? w _ hw157_3)).trans hw157_3)⟩ (fun hHeld => ?_); refine with_tabW refrainlaw22_events.tab12 refrainlaw22_events.bits12 (fun HT_ HW_ => ?_)
                                generalize wr.drew = w48 at BK154 BK155 HB hx156_0 hx156_1 hx156_2 hx156_3 hx157_0 hx157_1 hx157_2 hx157_3 hHeld ⊢
                                refine pure_ (i := 0) (N := some 77) (v := ?_) (a' := ?_) #[true, false, false, false, false, false, false, false, false, false, false, false, false] rfl rfl (any_of HT_.out (by kernel_rfl)) (fun _ _ _ h => h) (Or.inl ⟨by rfl, ?_⟩) ?_ ?_
                                rotate_left
                                · intro w'
                                  go_simp
                                  with_reducible rfl
                                rotate_left
                                · simp only [Act.put, List.setIfInBounds_toArray, List.set_cons_zero, List.set_cons_succ, i64_w, i32_w]
                                  rfl
                                refine pure_ (i := 1) (N := some 78) (v := ?_) (a' := ?_) #[true, true, false, false, false, false, false, false, false, false, false, false, false] rfl rfl (any_of HT_.out (by kernel_rfl)) (fun _ _ _ h => h) (Or.inl ⟨by rfl, ?_⟩) ?_ ?_
                                rotate_left
                                · intro w'
                                  go_simp
                                  with_reducible rfl
                                rotate_left
                                · simp only [Act.put, List.setIfInBounds_toArray, List.set_cons_zero, List.set_cons_succ, i64_w, i32_w]
                                  rfl
                                refine pure_ (i := 3) (N := some 80) (v := ?_) (a' := ?_) #[true, true, false, true, false, false, false, false, false, false, false, false, false] rfl rfl (any_of HT_.out (by kernel_rfl)) (fun _ _ _ h => h) (Or.inl ⟨by rfl, ?_⟩) ?_ ?_
                                rotate_left
                                · intro w'
                                  go_simp
                                  with_reducible rfl
                                rotate_left
                                · simp only [Act.put, List.setIfInBounds_toArray, List.set_cons_zero, List.set_cons_succ, i64_w, i32_w]
                                  rfl
                                refine pure_ (i := 6) (N := some 83) (v := ?_) (a' := ?_) #[true, true, false, true, false, false, true, false, false, false, false, false, false] rfl rfl (any_of HT_.out (by kernel_rfl)) (fun _ _ _ h => h) (Or.inl ⟨by rfl, ?_⟩) ?_ ?_
                                rotate_left
                                · intro w'
                                  go_simp
                                  with_reducible rfl
                                rotate_left
                                · simp only [Act.put, List.setIfInBounds_toArray, List.set_cons_zero, List.set_cons_succ, i64_w, i32_w]
                                  rfl
                                refine pure_ (i := 7) (N := some 84) (v := ?_) (a' := ?_) #[true, true, false, true, false, false, true, true, false, false, false, false, false] rfl rfl (any_of HT_.out (by kernel_rfl)) (fun _ _ _ h => h) (Or.inl ⟨by rfl, ?_⟩) ?_ ?_
                                rotate_left
                                · intro w'
                                  go_simp
                                  with_reducible rfl
                                rotate_left
                                · simp only [Act.put, List.setIfInBounds_toArray, List.set_cons_zero, List.set_cons_succ, i64_w, i32_w]
                                  rfl
                                refine pure_ (i := 9) (N := some 86) (v := ?_) (a' := ?_) #[true, true, false, true, false, false, true, true, false, true, false, false, false] rfl rfl (any_of HT_.out (by kernel_rfl)) (fun _ _ _ h => h) (Or.inl ⟨by rfl, ?_⟩) ?_ ?_
                                rotate_left
                                · intro w'
                                  go_simp
                                  with_reducible rfl
                                rotate_left
                                · simp only [Act.put, List.setIfInBounds_toArray, List.set_cons_zero, List.set_cons_succ, i64_w, i32_w]
                                  rfl
                                refine take_ (i := 2) (N := some 79) (v := ?_) (a' := ?_) #[true, true, true, true, false, false, true, true, false, true, false, false, false] rfl rfl (take_ofW HT_.out HW_.out (by kernel_rfl)) (fun _ _ _ h => h) (Or.inl ⟨by rfl, ?_⟩) hHeld ?_ ?_
                                rotate_left
                                · rintro w' ⟨s0, s1, s2, s3, s4, s5, s6, s7, s8, s9, s10, s11, s12, s13, s14, s15, s16, s17⟩
                                  go_simp
                                  with_reducible rfl
                                rotate_left
                                · simp only [Act.put, List.setIfInBounds_toArray, List.set_cons_zero, List.set_cons_succ, i64_w, i32_w]
                                  rfl
                                refine pure_ (i := 4) (N := some 81) (v := ?_) (a' := ?_) #[true, true, true, true, true, false, true, true, false, true, false, false, false] rfl rfl (any_of HT_.out (by kernel_rfl)) (fun _ _ _ h => h) (Or.inl ⟨by rfl, ?_⟩) ?_ ?_
                                rotate_left
                                · intro w'
                                  go_simp
                                  with_reducible rfl
                                rotate_left
                                · simp only [Act.put, List.setIfInBounds_toArray, List.set_cons_zero, List.set_cons_succ, i64_w, i32_w]
                                  rfl
                                refine take_ (i := 5) (N := some 82) (v := ?_) (a' := ?_) #[true, true, true, true, true, true, true, true, false, true, false, false, false] rfl rfl (take_ofW HT_.out HW_.out (by kernel_rfl)) (fun _ _ _ h => h) (Or.inl ⟨by rfl, ?_⟩) hHeld ?_ ?_
                                rotate_left
                                · rintro w' ⟨s0, s1, s2, s3, s4, s5, s6, s7, s8, s9, s10, s11, s12, s13, s14, s15, s16, s17⟩
                                  go_simp
                                  with_reducible rfl
                                rotate_left
                                · simp only [Act.put, List.setIfInBounds_toArray, List.set_cons_zero, List.set_cons_succ, i64_w, i32_w]
                                  rfl
                                refine take_ (i := 8) (N := some 85) (v := ?_) (a' := ?_) #[true, true, true, true, true, true, true, true, true, true, false, false, false] rfl rfl (take_ofW HT_.out HW_.out (by kernel_rfl)) (fun _ _ _ h => h) (Or.inl ⟨by rfl, ?_⟩) hHeld ?_ ?_
                                rotate_left
                                · rintro w' ⟨s0, s1, s2, s3, s4, s5, s6, s7, s8, s9, s10, s11, s12, s13, s14, s15, s16, s17⟩
                                  go_simp
                                  with_reducible rfl
                                rotate_left
                                · simp only [Act.put, List.setIfInBounds_toArray, List.set_cons_zero, List.set_cons_succ, i64_w, i32_w]
                                  rfl
                                refine pure_ (i := 10) (N := some 87) (v := ?_) (a' := ?_) #[true, true, true, true, true, true, true, true, true, true, true, false, false] rfl rfl (any_of HT_.out (by kernel_rfl)) (fun _ _ _ h => h) (Or.inl ⟨by rfl, ?_⟩) ?_ ?_
                                rotate_left
                                · intro w'
                                  go_simp
                                  with_reducible rfl
                                rotate_left
                                · simp only [Act.put, List.setIfInBounds_toArray, List.set_cons_zero, List.set_cons_succ, i64_w, i32_w]
                                  rfl
                                refine take_ (i := 11) (N := some 88) (v := ?_) (a' := ?_) #[true, true, true, true, true, true, true, true, true, true, true, true, false] rfl rfl (take_ofW HT_.out HW_.out (by kernel_rfl)) (fun _ _ _ h => h) (Or.inl ⟨by rfl, ?_⟩) hHeld ?_ ?_
                                rotate_left
                                · rintro w' ⟨s0, s1, s2, s3, s4, s5, s6, s7, s8, s9, s10, s11, s12, s13, s14, s15, s16, s17⟩
                                  go_simp
                                  with_reducible rfl
                                rotate_left
                                · simp only [Act.put, List.setIfInBounds_toArray, List.set_cons_zero, List.set_cons_succ, i64_w, i32_w]
                                  rfl
                                refine pure_ (i := 12) (N := some 89) (v := ?_) (a' := ?_) #[true, true, true, true, true, true, true, true, true, true, true, true, true] rfl rfl (any_of HT_.out (by kernel_rfl)) (fun _ _ _ h => h) (Or.inl ⟨by rfl, ?_⟩) ?_ ?_
                                rotate_left
                                · intro w'
                                  go_simp
                                  with_reducible rfl
                                rotate_left
                                · simp only [Act.put, List.setIfInBounds_toArray, List.set_cons_zero, List.set_cons_succ, i64_w, i32_w]
                                  rfl
                                refine done_ (done_of HT_.out (by kernel_rfl)) ?_
                                try go_wp2
                                go_ret
                                exact ⟨by first | rfl | (simp [errW_none, errW_some] <;> rfl) | (simp [*, errW_none, errW_some] <;> rfl), by repeat (first | (with_reducible first | exact HB.out | apply below_alloc | apply pw_below_drewN | apply below_drew1 | refine below_set ?_ GE154.out | refine below_set ?_ GE155.out) | exact HB.out)⟩
                              · rw [if_neg c45] at H
                                have c45b0 : (!(((rd_T66 ((rd_T71 l0 x5_1).f1.f2) x8_3).f0) == ((rd_T66 ((rd_T71 l1 x5_1).f1.f2) x8_3).f0)) || (!(((rd_T66 ((rd_T71 l0 x5_1).f1.f2) x8_3).f1) == ((rd_T66 ((rd_T71 l1 x5_1).f1.f2) x8_3).f1)) || (!((((rd_T66 ((rd_T71 l0 x5_1).f1.f2) x8_3).f2).toList) == (((rd_T66 ((rd_T71 l1 x5_1).f1.f2) x8_3).f2).toList)) || (!(((rd_T66 ((rd_T71 l0 x5_1).f1.f2) x8_3).f3) == ((rd_T66 ((rd_T71 l1 x5_1).f1.f2) x8_3).f3)))))) = false := by simpa using c45
                                clear c45
                                have H' := Aside0.mk H
                                clear H
                                have hnb49 := NB154_155.out
                                have hnc49 := NB155_154.out
                                have hcz50_0 : wr.cell? ⟨gb154, 0, none⟩ = some (.int .i64 ((rd_T71 l0 x5_1).f0)) := (blk_cell BK154.out 0).trans rfl
                                have hcz50_1 : wr.cell? ⟨gb154, 1, none⟩ = some (.string ((rd_T71 l0 x5_1).f1.f0)) := (blk_cell BK154.out 1).trans rfl
                                have hcz50_2 : wr.cell? ⟨gb154, 2, none⟩ = some (.int .i64 ((rd_T71 l0 x5_1).f1.f1)) := (blk_cell BK154.out 2).trans rfl
                                have hcz50_3 : wr.cell? ⟨gb154, 3, none⟩ = some (.slice A152_3 ((rd_T71 l0 x5_1).f1.f2).length c152_3) := (blk_cell BK154.out 3).trans rfl
                                have hcz50_4 : wr.cell? ⟨gb154, 4, none⟩ = some (.bool ((rd_T71 l0 x5_1).f2)) := (blk_cell BK154.out 4).trans rfl
                                have hfz50_0 := blk_frozen BK154.out 0
                                have hfz50_1 := blk_frozen BK154.out 1
                                have hfz50_2 := blk_frozen BK154.out 2
                                have hfz50_3 := blk_frozen BK154.out 3
                                have hfz50_4 := blk_frozen BK154.out 4
                                try go_wp2
                                have n0_ := Aside0.mk (blk_drew BK154.out)
                                have n1_ := Aside0.mk (blk_drew BK155.out)
                                have n2_ := Aside0.mk (below_drew1 HB.out)
                                clear BK154
                                clear BK155
                                clear HB
                                have BK154 := n0_
                                have BK155 := n1_
                                have HB := n2_
                                clear n0_ n1_ n2_
                                have p156 : 0 ≤ (x8_3 : Int) := of_decide_eq_true (by first | (with_reducible assumption) | assumption)
                                have q156 : x8_3 < (((rd_T71 l0 x5_1).f1.f2).length : Int) := of_decide_eq_true (by first | (with_reducible assumption) | assumption)
                                obtain ⟨ad156, e156, hx156_0, hx156_1, hx156_2, hx156_3⟩ := at_T66 HR152_3.out x8_3 p156 q156
                                have hw156_3 := hx156_3
                                have hw156_2 := hx156_2
                                have hw156_1 := hx156_1
                                have hw156_0 := hx156_0
                                cases e156
                                replace hx156_0 := (HB.out.cell (World.block_lt_of_cell? w _ hx156_0)).trans hx156_0
                                replace hx156_1 := (HB.out.cell (World.block_lt_of_cell? w _ hx156_1)).trans hx156_1
                                replace hx156_2 := (HB.out.cell (World.block_lt_of_cell? w _ hx156_2)).trans hx156_2
                                replace hx156_3 := (HB.out.cell (World.block_lt_of_cell? w _ hx156_3)).trans hx156_3
                                replace p156 := eq_true p156
                                replace q156 := eq_true q156
                                have p157 : 0 ≤ (x8_3 : Int) := of_decide_eq_true (by first | (with_reducible assumption) | assumption)
                                have q157 : x8_3 < (((rd_T71 l1 x5_1).f1.f2).length : Int) := of_decide_eq_true (by first | (with_reducible assumption) | assumption)
                                obtain ⟨ad157, e157, hx157_0, hx157_1, hx157_2, hx157_3⟩ := at_T66 HR153_3.out x8_3 p157 q157
                                have hw157_3 := hx157_3
                                have hw157_2 := hx157_2
                                have hw157_1 := hx157_1
                                have hw157_0 := hx157_0
                                cases e157
                                replace hx157_0 := (HB.out.cell (World.block_lt_of_cell? w _ hx157_0)).trans hx157_0
                                replace hx157_1 := (HB.out.cell (World.block_lt_of_cell? w _ hx157_1)).trans hx157_1
                                replace hx157_2 := (HB.out.cell (World.block_lt_of_cell? w _ hx157_2)).trans hx157_2
                                replace hx157_3 := (HB.out.cell (World.block_lt_of_cell? w _ hx157_3)).trans hx157_3
                                replace p157 := eq_true p157
                                replace q157 := eq_true q157
                                refine start_ (n := 13) (S := fun w' => w'.cell? ⟨gb154, 0, none⟩ = some (.int .i64 ((rd_T71 l0 x5_1).f0)) ∧ w'.cell? ⟨gb154, 1, none⟩ = some (.string ((rd_T71 l0 x5_1).f1.f0)) ∧ w'.cell? ⟨gb154, 2, none⟩ = some (.int .i64 ((rd_T71 l0 x5_1).f1.f1)) ∧ w'.cell? ⟨gb154, 3, none⟩ = some (.slice (some ad156) ((rd_T71 l0 x5_1).f1.f2).length c152_3) ∧ w'.cell? ⟨gb154, 4, none⟩ = some (.bool ((rd_T71 l0 x5_1).f2)) ∧ w'.cell? ⟨gb155, 0, none⟩ = some (.int .i64 ((rd_T71 l1 x5_1).f0)) ∧ w'.cell? ⟨gb155, 1, none⟩ = some (.string ((rd_T71 l1 x5_1).f1.f0)) ∧ w'.cell? ⟨gb155, 2, none⟩ = some (.int .i64 ((rd_T71 l1 x5_1).f1.f1)) ∧ w'.cell? ⟨gb155, 3, none⟩ = some (.slice (some ad157) ((rd_T71 l1 x5_1).f1.f2).length c153_3) ∧ w'.cell? ⟨gb155, 4, none⟩ = some (.bool ((rd_T71 l1 x5_1).f2)) ∧ w'.cell? (ad156.add ((x8_3).toNat * 4)) = some (.int .i64 ((rd_T66 ((rd_T71 l0 x5_1).f1.f2) x8_3).f0)) ∧ w'.cell? ⟨(ad156.add ((x8_3).toNat * 4)).block, (ad156.add ((x8_3).toNat * 4)).off + 1, none⟩ = some (.int .i64 ((rd_T66 ((rd_T71 l0 x5_1).f1.f2) x8_3).f1)) ∧ w'.cell? ⟨(ad156.add ((x8_3).toNat * 4)).block, (ad156.add ((x8_3).toNat * 4)).off + 2, none⟩ = some (.string ((rd_T66 ((rd_T71 l0 x5_1).f1.f2) x8_3).f2)) ∧ w'.cell? ⟨(ad156.add ((x8_3).toNat * 4)).block, (ad156.add ((x8_3).toNat * 4)).off + 3, none⟩ = some (.bool ((rd_T66 ((rd_T71 l0 x5_1).f1.f2) x8_3).f3)) ∧ w'.cell? (ad157.add ((x8_3).toNat * 4)) = some (.int .i64 ((rd_T66 ((rd_T71 l1 x5_1).f1.f2) x8_3).f0)) ∧ w'.cell? ⟨(ad157.add ((x8_3).toNat * 4)).block, (ad157.add ((x8_3).toNat * 4)).off + 1, none⟩ = some (.int .i64 ((rd_T66 ((rd_T71 l1 x5_1).f1.f2) x8_3).f1)) ∧ w'.cell? ⟨(ad157.add ((x8_3).toNat * 4)).block, (ad157.add ((x8_3).toNat * 4)).off + 2, none⟩ = some (.string ((rd_T66 ((rd_T71 l1 x5_1).f1.f2) x8_3).f2)) ∧ w'.cell? ⟨(ad157.add ((x8_3).toNat * 4)).block, (ad157.add ((x8_3).toNat * 4)).off + 3, none⟩ = some (.bool ((rd_T66 ((rd_T71 l1 x5_1).f1.f2) x8_3).f3))) (ds := []) #[false, false, false, false, false, false, false, false, false, false, false, false, false] (by kernel_rfl) rfl rfl ⟨(blk_cell BK154.out 0).trans rfl, (blk_cell BK154.out 1).trans rfl, (blk_cell BK154.out 2).trans rfl, (blk_cell BK154.out 3).trans rfl, (blk_cell BK154.out 4).trans rfl, (blk_cell BK155.out 0).trans rfl, (blk_cell BK155.out 1).trans rfl, (blk_cell BK155.out 2).trans rfl, (blk_cell BK155.out 3).trans rfl, (blk_cell BK155.out 4).trans rfl, ((HB.out.cell (World.block_lt_of_cell? w _ hw156_0)).trans hw156_0), ((HB.out.cell (World.block_lt_of_cell? w _ hw156_1)).trans hw156_1), ((HB.out.cell (World.block_lt_of_cell? w _ hw156_2)).trans hw156_2), ((HB.out.cell (World.block_lt_of_cell? w _ hw156_3)).trans hw156_3), ((HB.out.cell (World.block_lt_of_cell? w _ hw157_0)).trans hw157_0), ((HB.out.cell (World.block_lt_of_cell? w _ hw157_1)).trans hw157_1), ((HB.out.cell (World.block_lt_of_cell? w _ hw157_2)).trans hw157_2), ((HB.out.cell (World.block_lt_of_cell? w _ hw157_3)).trans hw157_3)⟩ (fun hHeld => ?_); refine with_tabW refrainlaw22_events.tab12 refrainlaw22_events.bits12 (fun HT_ HW_ => ?_)
                                generalize wr.drew = w51 at BK154 BK155 HB hx156_0 hx156_1 hx156_2 hx156_3 hx157_0 hx157_1 hx157_2 hx157_3 hHeld ⊢
                                refine pure_ (i := 0) (N := some 77) (v := ?_) (a' := ?_) #[true, false, false, false, false, false, false, false, false, false, false, false, false] rfl rfl (any_of HT_.out (by kernel_rfl)) (fun _ _ _ h => h) (Or.inl ⟨by rfl, ?_⟩) ?_ ?_
                                rotate_left
                                · intro w'
                                  go_simp
                                  with_reducible rfl
                                rotate_left
                                · simp only [Act.put, List.setIfInBounds_toArray, List.set_cons_zero, List.set_cons_succ, i64_w, i32_w]
                                  rfl
                                refine pure_ (i := 1) (N := some 78) (v := ?_) (a' := ?_) #[true, true, false, false, false, false, false, false, false, false, false, false, false] rfl rfl (any_of HT_.out (by kernel_rfl)) (fun _ _ _ h => h) (Or.inl ⟨by rfl, ?_⟩) ?_ ?_
                                rotate_left
                                · intro w'
                                  go_simp
                                  with_reducible rfl
                                rotate_left
                                · simp only [Act.put, List.setIfInBounds_toArray, List.set_cons_zero, List.set_cons_succ, i64_w, i32_w]
                                  rfl
                                refine pure_ (i := 3) (N := some 80) (v := ?_) (a' := ?_) #[true, true, false, true, false, false, false, false, false, false, false, false, false] rfl rfl (any_of HT_.out (by kernel_rfl)) (fun _ _ _ h => h) (Or.inl ⟨by rfl, ?_⟩) ?_ ?_
                                rotate_left
                                · intro w'
                                  go_simp
                                  with_reducible rfl
                                rotate_left
                                · simp only [Act.put, List.setIfInBounds_toArray, List.set_cons_zero, List.set_cons_succ, i64_w, i32_w]
                                  rfl
                                refine pure_ (i := 6) (N := some 83) (v := ?_) (a' := ?_) #[true, true, false, true, false, false, true, false, false, false, false, false, false] rfl rfl (any_of HT_.out (by kernel_rfl)) (fun _ _ _ h => h) (Or.inl ⟨by rfl, ?_⟩) ?_ ?_
                                rotate_left
                                · intro w'
                                  go_simp
                                  with_reducible rfl
                                rotate_left
                                · simp only [Act.put, List.setIfInBounds_toArray, List.set_cons_zero, List.set_cons_succ, i64_w, i32_w]
                                  rfl
                                refine pure_ (i := 7) (N := some 84) (v := ?_) (a' := ?_) #[true, true, false, true, false, false, true, true, false, false, false, false, false] rfl rfl (any_of HT_.out (by kernel_rfl)) (fun _ _ _ h => h) (Or.inl ⟨by rfl, ?_⟩) ?_ ?_
                                rotate_left
                                · intro w'
                                  go_simp
                                  with_reducible rfl
                                rotate_left
                                · simp only [Act.put, List.setIfInBounds_toArray, List.set_cons_zero, List.set_cons_succ, i64_w, i32_w]
                                  rfl
                                refine pure_ (i := 9) (N := some 86) (v := ?_) (a' := ?_) #[true, true, false, true, false, false, true, true, false, true, false, false, false] rfl rfl (any_of HT_.out (by kernel_rfl)) (fun _ _ _ h => h) (Or.inl ⟨by rfl, ?_⟩) ?_ ?_
                                rotate_left
                                · intro w'
                                  go_simp
                                  with_reducible rfl
                                rotate_left
                                · simp only [Act.put, List.setIfInBounds_toArray, List.set_cons_zero, List.set_cons_succ, i64_w, i32_w]
                                  rfl
                                refine take_ (i := 2) (N := some 79) (v := ?_) (a' := ?_) #[true, true, true, true, false, false, true, true, false, true, false, false, false] rfl rfl (take_ofW HT_.out HW_.out (by kernel_rfl)) (fun _ _ _ h => h) (Or.inl ⟨by rfl, ?_⟩) hHeld ?_ ?_
                                rotate_left
                                · rintro w' ⟨s0, s1, s2, s3, s4, s5, s6, s7, s8, s9, s10, s11, s12, s13, s14, s15, s16, s17⟩
                                  go_simp
                                  with_reducible rfl
                                rotate_left
                                · simp only [Act.put, List.setIfInBounds_toArray, List.set_cons_zero, List.set_cons_succ, i64_w, i32_w]
                                  rfl
                                refine pure_ (i := 4) (N := some 81) (v := ?_) (a' := ?_) #[true, true, true, true, true, false, true, true, false, true, false, false, false] rfl rfl (any_of HT_.out (by kernel_rfl)) (fun _ _ _ h => h) (Or.inl ⟨by rfl, ?_⟩) ?_ ?_
                                rotate_left
                                · intro w'
                                  go_simp
                                  with_reducible rfl
                                rotate_left
                                · simp only [Act.put, List.setIfInBounds_toArray, List.set_cons_zero, List.set_cons_succ, i64_w, i32_w]
                                  rfl
                                refine take_ (i := 5) (N := some 82) (v := ?_) (a' := ?_) #[true, true, true, true, true, true, true, true, false, true, false, false, false] rfl rfl (take_ofW HT_.out HW_.out (by kernel_rfl)) (fun _ _ _ h => h) (Or.inl ⟨by rfl, ?_⟩) hHeld ?_ ?_
                                rotate_left
                                · rintro w' ⟨s0, s1, s2, s3, s4, s5, s6, s7, s8, s9, s10, s11, s12, s13, s14, s15, s16, s17⟩
                                  go_simp
                                  with_reducible rfl
                                rotate_left
                                · simp only [Act.put, List.setIfInBounds_toArray, List.set_cons_zero, List.set_cons_succ, i64_w, i32_w]
                                  rfl
                                refine take_ (i := 8) (N := some 85) (v := ?_) (a' := ?_) #[true, true, true, true, true, true, true, true, true, true, false, false, false] rfl rfl (take_ofW HT_.out HW_.out (by kernel_rfl)) (fun _ _ _ h => h) (Or.inl ⟨by rfl, ?_⟩) hHeld ?_ ?_
                                rotate_left
                                · rintro w' ⟨s0, s1, s2, s3, s4, s5, s6, s7, s8, s9, s10, s11, s12, s13, s14, s15, s16, s17⟩
                                  go_simp
                                  with_reducible rfl
                                rotate_left
                                · simp only [Act.put, List.setIfInBounds_toArray, List.set_cons_zero, List.set_cons_succ, i64_w, i32_w]
                                  rfl
                                refine pure_ (i := 10) (N := some 87) (v := ?_) (a' := ?_) #[true, true, true, true, true, true, true, true, true, true, true, false, false] rfl rfl (any_of HT_.out (by kernel_rfl)) (fun _ _ _ h => h) (Or.inl ⟨by rfl, ?_⟩) ?_ ?_
                                rotate_left
                                · intro w'
                                  go_simp
                                  with_reducible rfl
                                rotate_left
                                · simp only [Act.put, List.setIfInBounds_toArray, List.set_cons_zero, List.set_cons_succ, i64_w, i32_w]
                                  rfl
                                refine take_ (i := 11) (N := some 88) (v := ?_) (a' := ?_) #[true, true, true, true, true, true, true, true, true, true, true, true, false] rfl rfl (take_ofW HT_.out HW_.out (by kernel_rfl)) (fun _ _ _ h => h) (Or.inl ⟨by rfl, ?_⟩) hHeld ?_ ?_
                                rotate_left
                                · rintro w' ⟨s0, s1, s2, s3, s4, s5, s6, s7, s8, s9, s10, s11, s12, s13, s14, s15, s16, s17⟩
                                  go_simp
                                  with_reducible rfl
                                rotate_left
                                · simp only [Act.put, List.setIfInBounds_toArray, List.set_cons_zero, List.set_cons_succ, i64_w, i32_w]
                                  rfl
                                refine pure_ (i := 12) (N := some 89) (v := ?_) (a' := ?_) #[true, true, true, true, true, true, true, true, true, true, true, true, true] rfl rfl (any_of HT_.out (by kernel_rfl)) (fun _ _ _ h => h) (Or.inl ⟨by rfl, ?_⟩) ?_ ?_
                                rotate_left
                                · intro w'
                                  go_simp
                                  with_reducible rfl
                                rotate_left
                                · simp only [Act.put, List.setIfInBounds_toArray, List.set_cons_zero, List.set_cons_succ, i64_w, i32_w]
                                  rfl
                                refine done_ (done_of HT_.out (by kernel_rfl)) ?_
                                try go_wp2
                                go_roundg k3
                                case measure => have := HK1.out; have := HJ6.out; have := HK3.out; omega
                                case rel => exact ⟨(wrap64 (x8_3 + 1)), (by first | rfl | (simp; done) | (simp [*]; done)), H', ⟨by have := HK1.out; have := HJ6.out; have := HK3.out; omega⟩, ⟨by (with_reducible repeat (first | refine blk_drewN ?_ _ | refine blk_drew ?_ | refine blk_alloc ?_ _)); exact BK154.out⟩, ⟨by (with_reducible repeat (first | refine blk_drewN ?_ _ | refine blk_drew ?_ | refine blk_alloc ?_ _)); exact BK155.out⟩, ⟨by repeat (first | (with_reducible first | exact HB.out | apply below_alloc | apply pw_below_drewN | apply below_drew1 | refine below_set ?_ GE154.out | refine below_set ?_ GE155.out) | exact HB.out)⟩⟩
                            · rw [if_neg c44] at H
                              exact absurd H (by simp)
                          · rw [if_neg c43] at H
                            exact absurd H (by simp)
                        · rw [if_neg c42] at H
                          have c42b0 : decide (x8_3 < (((rd_T71 l0 x5_1).f1.f2).length : Int)) = false := decide_eq_false c42
                          clear c42
                          have H' := Aside0.mk H
                          clear H
                          have hnb52 := NB154_155.out
                          have hnc52 := NB155_154.out
                          have hcz53_0 : wr.cell? ⟨gb154, 0, none⟩ = some (.int .i64 ((rd_T71 l0 x5_1).f0)) := (blk_cell BK154.out 0).trans rfl
                          have hcz53_1 : wr.cell? ⟨gb154, 1, none⟩ = some (.string ((rd_T71 l0 x5_1).f1.f0)) := (blk_cell BK154.out 1).trans rfl
                          have hcz53_2 : wr.cell? ⟨gb154, 2, none⟩ = some (.int .i64 ((rd_T71 l0 x5_1).f1.f1)) := (blk_cell BK154.out 2).trans rfl
                          have hcz53_3 : wr.cell? ⟨gb154, 3, none⟩ = some (.slice A152_3 ((rd_T71 l0 x5_1).f1.f2).length c152_3) := (blk_cell BK154.out 3).trans rfl
                          have hcz53_4 : wr.cell? ⟨gb154, 4, none⟩ = some (.bool ((rd_T71 l0 x5_1).f2)) := (blk_cell BK154.out 4).trans rfl
                          have hfz53_0 := blk_frozen BK154.out 0
                          have hfz53_1 := blk_frozen BK154.out 1
                          have hfz53_2 := blk_frozen BK154.out 2
                          have hfz53_3 := blk_frozen BK154.out 3
                          have hfz53_4 := blk_frozen BK154.out 4
                          go_wp2
                          go_roundg k3
                          case measure => have := HK1.out; have := HJ6.out; have := HK3.out; omega
                          case rel => exact ⟨(wrap64 (x5_1 + 1)), (by first | rfl | (simp; done) | (simp [*]; done)), H', ⟨by have := HK1.out; have := HJ6.out; have := HK3.out; omega⟩, ⟨by repeat (first | (with_reducible first | exact HB.out | apply below_alloc | apply pw_below_drewN | apply below_drew1 | refine below_set ?_ GE154.out | refine below_set ?_ GE155.out) | exact HB.out)⟩⟩
            · rw [if_neg c6] at H
              exact absurd H (by simp)
          · rw [if_neg c5] at H
            exact absurd H (by simp)
        · rw [if_neg c4] at H
          have c4b0 : decide (x5_1 < (l0.length : Int)) = false := decide_eq_false c4
          clear c4
          obtain rfl := Option.some.inj H
          go_wp2
          go_ret
          exact ⟨by first | rfl | (simp [errW_none, errW_some] <;> rfl) | (simp [*, errW_none, errW_some] <;> rfl), by repeat (first | (with_reducible first | exact HB.out | apply below_alloc | apply pw_below_drewN | apply below_drew1) | exact HB.out)⟩
  · rw [if_neg c3] at H
    have c3b0 : ((l0.length : Int) == (l1.length : Int)) = false := beq_eq_false_iff_ne.mpr c3
    have c3b1 : ((l0.length : Int) != (l1.length : Int)) = true := bne_iff_ne.mpr c3
    have c3b2 : (l0.length == l1.length) = false := by first | simpa using c3 | (simp at c3 ⊢; omega)
    obtain rfl := Option.some.inj H
    go_enter Tryd.func16, Tryd.ntmps16
    go_wp2
    go_ret
    exact ⟨by first | rfl | (simp [errW_none, errW_some] <;> rfl) | (simp [*, errW_none, errW_some] <;> rfl), by repeat (first | (with_reducible first | exact HB.out | apply below_alloc | apply pw_below_drewN | apply below_drew1) | exact HB.out)⟩
end Go.Proofs.YtcfgmkmllcfjjaaDoor.PImageForm
