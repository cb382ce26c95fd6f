import Derived.Test.YtcfgmkmllcfjjaaGreatDoorZAK
set_option linter.unusedVariables false
set_option linter.unusedSimpArgs false
namespace Go.Proofs.YtcfgmkmllcfjjaaGreatDoor
open Go.RowKit Go.Proofs.YtcfgmkmllcfjjaaGreatDoorW.PrintWords Go.Proofs.YtcfgmkmllcfjjaaGreatDoorW.PrintMore PImageAll
attribute [local go_sem high] PImageAll.eqA26 PImageAll.eqA58 PImageAll.eqA60 PImageAll.eqA67
theorem wsucc {i : Nat} (h : i < 4611686018427387904) : wrap64 ((i : Int) + 1) = ((i + 1 : Nat) : Int) := by unfold wrap64; omega
theorem same_l0 {l : List Int} (hl : l.length ≤ 4611686018427387904) : ∀ (d i : Nat), i + d = l.length → refrainlaw22_same.l0 (d + 1) l l (i : Int) = some true
  | 0, i, h => by rw [refrainlaw22_same.l0, if_neg (by omega)]
  | d + 1, i, h => by rw [refrainlaw22_same.l0, if_pos (by omega), if_pos (by omega), if_pos (by omega), if_pos rfl, wsucc (by omega), same_l0 hl d (i + 1) (by omega)]
theorem same_refl {l : List Int} (hl : l.length ≤ 4611686018427387904) : refrainlaw22_same.f (l.length + 1) l l = some true := by
  unfold refrainlaw22_same.f
  rw [if_pos rfl]
  exact same_l0 hl l.length 0 (by omega)
theorem same_any {w : World} {A0 A1 : Option Addr} {c0 c1 : Nat} {l : List Int} (hl : l.length ≤ 4611686018427387904) (hr0 : Kd.C (Kd.int .u8) w A0 l.length l) (hc0 : l.length ≤ c0) (hr1 : Kd.C (Kd.int .u8) w A1 l.length l) (hc1 : l.length ≤ c1) :
    Calls Tryz.prog 9 #[.slice A0 l.length c0, .slice A1 l.length c1] w fun e w' => e = .returned (.bool true) ∧ Drawn0 w w' :=
  refrainlaw22_same.calls (l.length + 1) A0 c0 l A1 c1 l true w hr0 hc0 hr1 hc1 (same_refl hl)
theorem atk67N {w : World} {A : Option Addr} {n : Nat} {xs : List S67} (h : Kd.C k67 w A n xs) (k : Nat) (hk : k < n) (hk' : k < xs.length) : ∃ ad, A = some ad ∧ w.cell? (ad.add (k * 4)) = some (.int .i64 xs[k].f0) ∧ w.cell? ⟨(ad.add (k * 4)).block, (ad.add (k * 4)).off + 1, none⟩ = some (.int .i64 xs[k].f1) ∧ w.cell? ⟨(ad.add (k * 4)).block, (ad.add (k * 4)).off + 2, none⟩ = some (.string xs[k].f2) ∧ w.cell? ⟨(ad.add (k * 4)).block, (ad.add (k * 4)).off + 3, none⟩ = some (.bool xs[k].f3) := by
  have h1 := at_T67 h (k : Int) (by omega) (by omega)
  have h2 : rd_T67 xs (k : Int) = xs[k] := by simp [rd_T67, List.getD_eq_getElem?_getD, List.getElem?_eq_getElem hk']
  simp only [Int.toNat_natCast] at h1
  rw [h2] at h1
  exact h1
set_option maxRecDepth 100000 in
set_option maxHeartbeats 4000000 in
theorem typesEq_any {w : World} {A0 A1 : Option Addr} {c0 c1 : Nat} {l : List S56} (hl : l.length ≤ 4611686018427387904) (ha : ∀ x ∈ l, x.f1.length ≤ 4611686018427387904) (hr0 : Kd.C k56 w A0 l.length l) (hr1 : Kd.C k56 w A1 l.length l) :
    Calls Tryz.prog 28 #[.slice A0 l.length c0, .slice A1 l.length c1] w fun e w' => e = .returned (.bool true) ∧ Below w.heap.size w w' := by
  have HA := Lib.hid ha
  have HR0 := Lib.hid hr0
  have HR1 := Lib.hid hr1
  have HB0 := Lib.hid (Below.refl w.heap.size w)
  clear ha hr0 hr1
  go_enter Tryz.func28, Tryz.ntmps28
  go_upto_region 4 with fail
  go_loopw [5] (fun t5 wr => ∃ i : Nat, i ≤ l.length ∧ t5 = .int .i64 i ∧ Hid (Below w.heap.size w wr)) (fun t5 _ => l.length - (intOf t5).toNat)
  case atStart => exact ⟨0, by omega, rfl, HB0⟩
  case round =>
    obtain ⟨i, hi, rfl, hB⟩ := hrel
    by_cases hlt : i < l.length
    · have i1 : (0 : Int) ≤ (i : Int) := by omega
      have i2 : (i : Int) < (l.length : Int) := by omega
      obtain ⟨ad, B0, b0, e0, p0, p1, hl0, hr0⟩ := atk56N HR0.out i hlt hlt
      obtain ⟨bd, B1, b1, e1, q0, q1, hl1, hr1⟩ := atk56N HR1.out i hlt hlt
      have hla := HA.out _ (List.getElem_mem hlt)
      subst e0 e1
      generalize l[i] = x at *
      have HS0 := Lib.hid hr0
      have HS1 := Lib.hid hr1
      have HP1 := Lib.hid (fun (W : World) (h : Below w.heap.size w W) => And.intro (pw_cell_below h p1) (pw_cell_below h q1))
      have p0 := pw_cell_below hB.out p0
      have p1 := pw_cell_below hB.out p1
      have q0 := pw_cell_below hB.out q0
      have q1 := pw_cell_below hB.out q1
      clear hr0 hr1
      go_upto_region 6 with fail
      go_quiet (fail)
      go_upto_region 9 with fail
      have HB2 := Lib.hid (pw_below_drewN hB.out nq)
      clear p0 p1 q0 q1 hB
      obtain ⟨wo, rfl⟩ : ∃ wo : World, wo = wr := ⟨_, rfl⟩
      go_loopw [6] (fun t6 wr => ∃ j : Nat, j ≤ x.f1.length ∧ t6 = .int .i64 j ∧ Hid (Below w.heap.size w wr)) (fun t6 _ => x.f1.length - (intOf t6).toNat)
      case atStart => exact ⟨0, by omega, rfl, HB2⟩
      case round =>
        obtain ⟨j, hj, rfl, hB⟩ := hrel
        obtain ⟨p1, q1⟩ := HP1.out _ hB.out
        by_cases hjx : j < x.f1.length
        · have j1 : (0 : Int) ≤ (j : Int) := by omega
          have j2 : (j : Int) < (x.f1.length : Int) := by omega
          obtain ⟨cd, e0, f0, f1⟩ := atk58N HS0.out j hjx hjx
          obtain ⟨dd, e1, g0, g1⟩ := atk58N HS1.out j hjx hjx
          subst e0 e1
          have f0 := pw_cell_below hB.out f0
          have f1 := pw_cell_below hB.out f1
          have g0 := pw_cell_below hB.out g0
          have g1 := pw_cell_below hB.out g1
          go_upto_region 11 with fail
          go_quiet (fail)
          have HB3 := Lib.hid (pw_below_drewN hB.out nq)
          clear hB
          go_wp2_with fail
          go_roundw
          case rel => exact ⟨j + 1, by omega, by go_num, HB3⟩
          case measure => simp [intOf]; omega
        · obtain rfl : j = x.f1.length := by omega
          go_wp2_with fail
          go_roundw
          case rel => exact ⟨i + 1, by omega, by go_num, hB⟩
          case measure => simp [intOf]; omega
    · obtain rfl : i = l.length := by omega
      go_wp2_with fail
      go_ret
      exact ⟨rfl, hB.out⟩
set_option maxRecDepth 100000 in
set_option maxHeartbeats 4000000 in
theorem eventsEq_any {w : World} {A0 A1 : Option Addr} {c0 c1 : Nat} {l : List S65} (hl : l.length ≤ 4611686018427387904) (ha : ∀ x ∈ l, x.f1.f2.length ≤ 4611686018427387904) (hr0 : Kd.C k65 w A0 l.length l) (hr1 : Kd.C k65 w A1 l.length l) :
    Calls Tryz.prog 29 #[.slice A0 l.length c0, .slice A1 l.length c1] w fun e w' => e = .returned (.bool true) ∧ Below w.heap.size w w' := by
  have HA := Lib.hid ha
  have HR0 := Lib.hid hr0
  have HR1 := Lib.hid hr1
  have HB0 := Lib.hid (Below.refl w.heap.size w)
  clear ha hr0 hr1
  go_enter Tryz.func29, Tryz.ntmps29
  go_upto_region 4 with fail
  go_loopw [5] (fun t5 wr => ∃ i : Nat, i ≤ l.length ∧ t5 = .int .i64 i ∧ Hid (Below w.heap.size w wr)) (fun t5 _ => l.length - (intOf t5).toNat)
  case atStart => exact ⟨0, by omega, rfl, HB0⟩
  case round =>
    obtain ⟨i, hi, rfl, hB⟩ := hrel
    by_cases hlt : i < l.length
    · have i1 : (0 : Int) ≤ (i : Int) := by omega
      have i2 : (i : Int) < (l.length : Int) := by omega
      obtain ⟨ad, B0, b0, e0, p0, p1, p2, p3, p4, hl0, hr0⟩ := atk65N HR0.out i hlt hlt
      obtain ⟨bd, B1, b1, e1, q0, q1, q2, q3, q4, hl1, hr1⟩ := atk65N HR1.out i hlt hlt
      have hla := HA.out _ (List.getElem_mem hlt)
      subst e0 e1
      generalize l[i] = x at *
      have HS0 := Lib.hid hr0
      have HS1 := Lib.hid hr1
      have p0 := pw_cell_below hB.out p0
      have p1 := pw_cell_below hB.out p1
      have p2 := pw_cell_below hB.out p2
      have p3 := pw_cell_below hB.out p3
      have p4 := pw_cell_below hB.out p4
      have q0 := pw_cell_below hB.out q0
      have q1 := pw_cell_below hB.out q1
      have q2 := pw_cell_below hB.out q2
      have q3 := pw_cell_below hB.out q3
      have q4 := pw_cell_below hB.out q4
      clear hr0 hr1
      have HKeep := Lib.hid (show ∀ W', Below wr.heap.size wr W' → W'.cell? (ad.add (i * 5)) = some (.int .i64 x.f0) ∧ W'.cell? ⟨(ad.add (i * 5)).block, (ad.add (i * 5)).off + 1, none⟩ = some (.string x.f1.f0) ∧ W'.cell? ⟨(ad.add (i * 5)).block, (ad.add (i * 5)).off + 2, none⟩ = some (.int .i64 x.f1.f1) ∧ W'.cell? ⟨(ad.add (i * 5)).block, (ad.add (i * 5)).off + 3, none⟩ = some (.slice B0 x.f1.f2.length b0) ∧ W'.cell? ⟨(ad.add (i * 5)).block, (ad.add (i * 5)).off + 4, none⟩ = some (.bool x.f2) ∧ W'.cell? (bd.add (i * 5)) = some (.int .i64 x.f0) ∧ W'.cell? ⟨(bd.add (i * 5)).block, (bd.add (i * 5)).off + 1, none⟩ = some (.string x.f1.f0) ∧ W'.cell? ⟨(bd.add (i * 5)).block, (bd.add (i * 5)).off + 2, none⟩ = some (.int .i64 x.f1.f1) ∧ W'.cell? ⟨(bd.add (i * 5)).block, (bd.add (i * 5)).off + 3, none⟩ = some (.slice B1 x.f1.f2.length b1) ∧ W'.cell? ⟨(bd.add (i * 5)).block, (bd.add (i * 5)).off + 4, none⟩ = some (.bool x.f2) from fun W' h => ⟨pw_cell_below h p0, pw_cell_below h p1, pw_cell_below h p2, pw_cell_below h p3, pw_cell_below h p4, pw_cell_below h q0, pw_cell_below h q1, pw_cell_below h q2, pw_cell_below h q3, pw_cell_below h q4⟩)
      clear p0 p1 p2 p3 p4 q0 q1 q2 q3 q4
      go_upto_region 6 with fail
      go_cut [6, 7] from 20 to 27 (fun t6 t7 wx => ∃ ga gb : Nat, t6 = .pointer (some ⟨ga, 0, none⟩) ∧ t7 = .pointer (some ⟨gb, 0, none⟩) ∧ Hid (Below wr.heap.size wr wx) ∧ Hid (wx.heap[ga]? = some (.cells #[.int .i64 x.f0, .string x.f1.f0, .int .i64 x.f1.f1, .slice B0 x.f1.f2.length b0, .bool x.f2] 65 (0, 0))) ∧ Hid (wx.heap[gb]? = some (.cells #[.int .i64 x.f0, .string x.f1.f0, .int .i64 x.f1.f1, .slice B1 x.f1.f2.length b1, .bool x.f2] 65 (0, 0))))
      case first =>
        have hA0 := blk_new wr (.cells #[.int .i64 x.f0, .string x.f1.f0, .int .i64 x.f1.f1, .slice B0 x.f1.f2.length b0, .bool x.f2] 65)
        have hB0 := blk_new wr (.cells #[.int .i64 x.f0, .string x.f1.f0, .int .i64 x.f1.f1, .slice B1 x.f1.f2.length b1, .bool x.f2] 65)
        have hA1 := blk_new (wr.alloc (.cells #[.int .i64 x.f0, .string x.f1.f0, .int .i64 x.f1.f1, .slice B1 x.f1.f2.length b1, .bool x.f2] 65)) (.cells #[.int .i64 x.f0, .string x.f1.f0, .int .i64 x.f1.f1, .slice B0 x.f1.f2.length b0, .bool x.f2] 65)
        have hB1 := blk_new (wr.alloc (.cells #[.int .i64 x.f0, .string x.f1.f0, .int .i64 x.f1.f1, .slice B0 x.f1.f2.length b0, .bool x.f2] 65)) (.cells #[.int .i64 x.f0, .string x.f1.f0, .int .i64 x.f1.f1, .slice B1 x.f1.f2.length b1, .bool x.f2] 65)
        rw [show (wr.alloc (.cells #[.int .i64 x.f0, .string x.f1.f0, .int .i64 x.f1.f1, .slice B1 x.f1.f2.length b1, .bool x.f2] 65)).heap.size = wr.heap.size + 1 by simp] at hA1
        rw [show (wr.alloc (.cells #[.int .i64 x.f0, .string x.f1.f0, .int .i64 x.f1.f1, .slice B0 x.f1.f2.length b0, .bool x.f2] 65)).heap.size = wr.heap.size + 1 by simp] at hB1
        have b1' := below_new (wr.alloc (.cells #[.int .i64 x.f0, .string x.f1.f0, .int .i64 x.f1.f1, .slice B0 x.f1.f2.length b0, .bool x.f2] 65)) (.cells #[.int .i64 x.f0, .string x.f1.f0, .int .i64 x.f1.f1, .slice B1 x.f1.f2.length b1, .bool x.f2] 65)
        have b2' := below_new (wr.alloc (.cells #[.int .i64 x.f0, .string x.f1.f0, .int .i64 x.f1.f1, .slice B1 x.f1.f2.length b1, .bool x.f2] 65)) (.cells #[.int .i64 x.f0, .string x.f1.f0, .int .i64 x.f1.f1, .slice B0 x.f1.f2.length b0, .bool x.f2] 65)
        have HO1 := Lib.hid (And.intro (below_drew (below_step (below_new wr (.cells #[.int .i64 x.f0, .string x.f1.f0, .int .i64 x.f1.f1, .slice B0 x.f1.f2.length b0, .bool x.f2] 65)) b1')) (And.intro (blk_below hA0 b1') hB1))
        have HO2 := Lib.hid (And.intro (below_drew (below_step (below_new wr (.cells #[.int .i64 x.f0, .string x.f1.f0, .int .i64 x.f1.f1, .slice B1 x.f1.f2.length b1, .bool x.f2] 65)) b2')) (And.intro hA1 (blk_below hB0 b2')))
        clear hA0 hB0 hA1 hB1 b1' b2'
        go_region_held3 (fun W' => W'.cell? (ad.add (i * 5)) = some (.int .i64 x.f0) ∧ W'.cell? ⟨(ad.add (i * 5)).block, (ad.add (i * 5)).off + 1, none⟩ = some (.string x.f1.f0) ∧ W'.cell? ⟨(ad.add (i * 5)).block, (ad.add (i * 5)).off + 2, none⟩ = some (.int .i64 x.f1.f1) ∧ W'.cell? ⟨(ad.add (i * 5)).block, (ad.add (i * 5)).off + 3, none⟩ = some (.slice B0 x.f1.f2.length b0) ∧ W'.cell? ⟨(ad.add (i * 5)).block, (ad.add (i * 5)).off + 4, none⟩ = some (.bool x.f2) ∧ W'.cell? (bd.add (i * 5)) = some (.int .i64 x.f0) ∧ W'.cell? ⟨(bd.add (i * 5)).block, (bd.add (i * 5)).off + 1, none⟩ = some (.string x.f1.f0) ∧ W'.cell? ⟨(bd.add (i * 5)).block, (bd.add (i * 5)).off + 2, none⟩ = some (.int .i64 x.f1.f1) ∧ W'.cell? ⟨(bd.add (i * 5)).block, (bd.add (i * 5)).off + 3, none⟩ = some (.slice B1 x.f1.f2.length b1) ∧ W'.cell? ⟨(bd.add (i * 5)).block, (bd.add (i * 5)).off + 4, none⟩ = some (.bool x.f2)) (exact HKeep.out _ (by repeat (first | exact Below.refl _ _ | apply below_drew | apply below_alloc | apply pw_below_drewN))) (fail)
        · go_wp2_with fail
          go_meet
          exact ⟨_, _, rfl, rfl, Lib.hid HO1.out.1, Lib.hid HO1.out.2.1, Lib.hid HO1.out.2.2⟩
        · go_wp2_with fail
          go_meet
          exact ⟨_, _, rfl, rfl, Lib.hid HO2.out.1, Lib.hid HO2.out.2.1, Lib.hid HO2.out.2.2⟩
      case rest =>
        obtain ⟨wa, rfl⟩ : ∃ wa : World, wa = wc := ⟨_, rfl⟩
        obtain ⟨ga, gb, rfl, rfl, hbx, hga, hgb⟩ := hcut
        have HB2 := Lib.hid (below_step hB.out hbx.out)
        have p0 := (blk_cell hga.out 0).trans rfl
        have p1 := (blk_cell hga.out 1).trans rfl
        have p2 := (blk_cell hga.out 2).trans rfl
        have p3 := (blk_cell hga.out 3).trans rfl
        have p4 := (blk_cell hga.out 4).trans rfl
        have q0 := (blk_cell hgb.out 0).trans rfl
        have q1 := (blk_cell hgb.out 1).trans rfl
        have q2 := (blk_cell hgb.out 2).trans rfl
        have q3 := (blk_cell hgb.out 3).trans rfl
        have q4 := (blk_cell hgb.out 4).trans rfl
        clear HKeep hB hbx
        go_upto_region 10 with fail
        clear p0 p1 p2 p3 p4 q0 q1 q2 q3 q4
        have HB3 := Lib.hid (Below.refl wa.heap.size wa)
        go_loopw [8] (fun t8 wr => ∃ j : Nat, j ≤ x.f1.f2.length ∧ t8 = .int .i64 j ∧ Hid (Below wa.heap.size wa wr)) (fun t8 _ => x.f1.f2.length - (intOf t8).toNat)
        case atStart => exact ⟨0, by omega, rfl, HB3⟩
        case round =>
          obtain ⟨j, hj, rfl, hB⟩ := hrel
          have p3 := (blk_cell (blk_below hga.out hB.out) 3).trans rfl
          have q3 := (blk_cell (blk_below hgb.out hB.out) 3).trans rfl
          by_cases hjx : j < x.f1.f2.length
          · have j1 : (0 : Int) ≤ (j : Int) := by omega
            have j2 : (j : Int) < (x.f1.f2.length : Int) := by omega
            obtain ⟨cd, e0, f0, f1, f2, f3⟩ := atk67N HS0.out j hjx hjx
            obtain ⟨dd, e1, g0, g1, g2, g3⟩ := atk67N HS1.out j hjx hjx
            subst e0 e1
            have hbb := below_step HB2.out hB.out
            have f0 := pw_cell_below hbb f0
            have f1 := pw_cell_below hbb f1
            have f2 := pw_cell_below hbb f2
            have f3 := pw_cell_below hbb f3
            have g0 := pw_cell_below hbb g0
            have g1 := pw_cell_below hbb g1
            have g2 := pw_cell_below hbb g2
            have g3 := pw_cell_below hbb g3
            clear hbb
            go_upto_region 12 with fail
            go_quiet (fail)
            have HB4 := Lib.hid (pw_below_drewN hB.out nq)
            clear hB
            go_wp2_with fail
            go_roundw
            case rel => exact ⟨j + 1, by omega, by go_num, HB4⟩
            case measure => simp [intOf]; omega
          · obtain rfl : j = x.f1.f2.length := by omega
            go_wp2_with fail
            go_roundw
            case rel => exact ⟨i + 1, by omega, by go_num, Lib.hid (below_step HB2.out hB.out)⟩
            case measure => simp [intOf]; omega
    · obtain rfl : i = l.length := by omega
      go_wp2_with fail
      go_ret
      exact ⟨rfl, hB.out⟩
structure ImgB (m : Img) : Prop where
  t : m.types.length ≤ 4611686018427387904
  q : m.saved.length ≤ 4611686018427387904
  s : m.seens.length ≤ 4611686018427387904
  a : ∀ x ∈ m.types, x.f1.length ≤ 4611686018427387904
  v : ∀ x ∈ m.seens, x.f1.f2.length ≤ 4611686018427387904
def imgV (m : Img) (v4 v5 v6 : Value) : Value := .agg #[.int .i64 m.runs, .int .i64 m.made, .int .i64 m.seq, .int .i64 m.now, v4, v5, v6]
structure TwoB (w : World) (cs ds : Array Value) (W : World) : Prop where
  B : Below w.heap.size w W
  b1 : W.heap[w.heap.size]? = some (.cells cs 31 (0, 0))
  b2 : W.heap[w.heap.size + 1]? = some (.cells ds 31 (0, 0))
theorem TwoB.below {w W W' : World} {cs ds : Array Value} (h : TwoB w cs ds W) (hB : Below W.heap.size W W') : TwoB w cs ds W' := ⟨below_step h.B hB, blk_below h.b1 hB, blk_below h.b2 hB⟩
theorem TwoB.new (w : World) (cs ds : Array Value) : TwoB w cs ds ((w.alloc (.cells cs 31)).alloc (.cells ds 31)) := by
  have hb := below_new (w.alloc (.cells cs 31)) (.cells ds 31)
  have h2 := blk_new (w.alloc (.cells cs 31)) (.cells ds 31)
  rw [show (w.alloc (.cells cs 31)).heap.size = w.heap.size + 1 by simp] at h2
  exact ⟨below_step (below_new w (.cells cs 31)) hb, blk_below (blk_new w (.cells cs 31)) hb, h2⟩
set_option maxRecDepth 100000 in
set_option maxHeartbeats 4000000 in
theorem images_any {w : World} {m : Img} {A4 A5 A6 B4 B5 B6 : Option Addr} {a4 a5 a6 b4 b5 b6 : Nat} (hm : ImgB m) (h1 : ImgV w m A4 a4 A5 a5 A6 a6) (h2 : ImgV w m B4 b4 B5 b5 B6 b6) :
    Calls Tryz.prog 14 #[imgV m (.slice A4 m.types.length a4) (.slice A5 m.saved.length a5) (.slice A6 m.seens.length a6), imgV m (.slice B4 m.types.length b4) (.slice B5 m.saved.length b5) (.slice B6 m.seens.length b6)] w fun e w' => e = .returned (.bool true) ∧ Below w.heap.size w w' := by
  have HT := Lib.hid (fun (W : World) (h : Below w.heap.size w W) => typesEq_any (c0 := a4) (c1 := b4) hm.t hm.a (Kd.C_below h1.1.1 h) (Kd.C_below h2.1.1 h))
  have HE := Lib.hid (fun (W : World) (h : Below w.heap.size w W) => eventsEq_any (c0 := a6) (c1 := b6) hm.s hm.v (Kd.C_below h1.2.2.1 h) (Kd.C_below h2.2.2.1 h))
  have HQ0 := Lib.hid h1.2.1.1
  have HQ1 := Lib.hid h2.2.1.1
  have hq := hm.q
  unfold imgV
  have HF0 := Lib.hid (TwoB.new w #[.int .i64 m.runs, .int .i64 m.made, .int .i64 m.seq, .int .i64 m.now, .slice A4 m.types.length a4, .slice A5 m.saved.length a5, .slice A6 m.seens.length a6] #[.int .i64 m.runs, .int .i64 m.made, .int .i64 m.seq, .int .i64 m.now, .slice B4 m.types.length b4, .slice B5 m.saved.length b5, .slice B6 m.seens.length b6])
  clear hm h1 h2
  go_enter Tryz.func14, Tryz.ntmps14
  go_upto_region 1 with fail
  generalize (w.alloc (.cells #[.int .i64 m.runs, .int .i64 m.made, .int .i64 m.seq, .int .i64 m.now, .slice A4 m.types.length a4, .slice A5 m.saved.length a5, .slice A6 m.seens.length a6] 31)).alloc (.cells #[.int .i64 m.runs, .int .i64 m.made, .int .i64 m.seq, .int .i64 m.now, .slice B4 m.types.length b4, .slice B5 m.saved.length b5, .slice B6 m.seens.length b6] 31) = W0 at *
  have p0 := (blk_cell HF0.out.b1 0).trans rfl
  have p1 := (blk_cell HF0.out.b1 1).trans rfl
  have p2 := (blk_cell HF0.out.b1 2).trans rfl
  have p3 := (blk_cell HF0.out.b1 3).trans rfl
  have p4 := (blk_cell HF0.out.b1 4).trans rfl
  have p5 := (blk_cell HF0.out.b1 5).trans rfl
  have p6 := (blk_cell HF0.out.b1 6).trans rfl
  have q0 := (blk_cell HF0.out.b2 0).trans rfl
  have q1 := (blk_cell HF0.out.b2 1).trans rfl
  have q2 := (blk_cell HF0.out.b2 2).trans rfl
  have q3 := (blk_cell HF0.out.b2 3).trans rfl
  have q4 := (blk_cell HF0.out.b2 4).trans rfl
  have q5 := (blk_cell HF0.out.b2 5).trans rfl
  have q6 := (blk_cell HF0.out.b2 6).trans rfl
  go_upto_region 4 with fail
  clear p0 p1 p2 p3 p4 p5 p6 q0 q1 q2 q3 q4 q5 q6
  go_loopw [5] (fun t5 wr => ∃ i : Nat, i ≤ m.saved.length ∧ t5 = .int .i64 i ∧ Hid (TwoB w #[.int .i64 m.runs, .int .i64 m.made, .int .i64 m.seq, .int .i64 m.now, .slice A4 m.types.length a4, .slice A5 m.saved.length a5, .slice A6 m.seens.length a6] #[.int .i64 m.runs, .int .i64 m.made, .int .i64 m.seq, .int .i64 m.now, .slice B4 m.types.length b4, .slice B5 m.saved.length b5, .slice B6 m.seens.length b6] wr)) (fun t5 _ => m.saved.length - (intOf t5).toNat)
  case atStart => exact ⟨0, by omega, rfl, HF0⟩
  case round =>
    obtain ⟨i, hi, rfl, hF⟩ := hrel
    have p5 := (blk_cell hF.out.b1 5).trans rfl
    have q5 := (blk_cell hF.out.b2 5).trans rfl
    by_cases hlt : i < m.saved.length
    · have i1 : (0 : Int) ≤ (i : Int) := by omega
      have i2 : (i : Int) < (m.saved.length : Int) := by omega
      obtain ⟨cd, e0, f0, f1, f2, f3⟩ := atk60N HQ0.out i hlt hlt
      obtain ⟨dd, e1, g0, g1, g2, g3⟩ := atk60N HQ1.out i hlt hlt
      subst e0 e1
      have f0 := pw_cell_below hF.out.B f0
      have f1 := pw_cell_below hF.out.B f1
      have f2 := pw_cell_below hF.out.B f2
      have f3 := pw_cell_below hF.out.B f3
      have g0 := pw_cell_below hF.out.B g0
      have g1 := pw_cell_below hF.out.B g1
      have g2 := pw_cell_below hF.out.B g2
      have g3 := pw_cell_below hF.out.B g3
      go_upto_region 6 with fail
      go_quiet (fail)
      have HF2 := Lib.hid (hF.out.below (pw_below_drewN (Below.refl _ _) nq))
      clear hF
      go_wp2_with fail
      go_roundw
      case rel => exact ⟨i + 1, by omega, by go_num, HF2⟩
      case measure => simp [intOf]; omega
    · obtain rfl : i = m.saved.length := by omega
      have p4 := (blk_cell hF.out.b1 4).trans rfl
      have q4 := (blk_cell hF.out.b2 4).trans rfl
      have p6 := (blk_cell hF.out.b1 6).trans rfl
      have q6 := (blk_cell hF.out.b2 6).trans rfl
      go_wp2_with (first | (go_at_call 28; refine (HT.out _ hF.out.B).mono ?_; rintro e w2 ⟨rfl, hB2⟩; have hF2 := hF.out.below hB2; clear p4 p6 q4 q6; have p6 := (blk_cell hF2.b1 6).trans rfl; have q6 := (blk_cell hF2.b2 6).trans rfl) | (go_at_call 29; refine (HE.out _ hF2.B).mono ?_; rintro e w3 ⟨rfl, hB3⟩))
      go_ret
      exact ⟨rfl, below_step hF2.B hB3⟩
end Go.Proofs.YtcfgmkmllcfjjaaGreatDoor
set_option linter.unusedVariables false
set_option linter.unusedSimpArgs false
namespace Go.Proofs.YtcfgmkmllcfjjaaGreatDoor
open Go.RowKit Go.Proofs.YtcfgmkmllcfjjaaGreatDoorW.PrintWords Go.Proofs.YtcfgmkmllcfjjaaGreatDoorW.PrintMore PImageAll
abbrev Rs := List Int × Bool
def tk (n : Int) (l : List Int) : Nat := if 0 ≤ n ∧ n ≤ l.length then n.toNat else 0
def tbad (n : Int) (l : List Int) : Bool := !decide (0 ≤ n ∧ n ≤ l.length)
def takenR (n : Int) (s : Rs) : List Int := s.1.take (tk n s.1)
def takeR (n : Int) (s : Rs) : Rs := (s.1.drop (tk n s.1), s.2 || tbad n s.1)
def RAt (w0 w : World) (gr : Nat) (s : Rs) : Prop :=
  w0.heap.size ≤ gr ∧ Below w0.heap.size w0 w ∧ ∃ A c, w.heap[gr]? = some (.cells #[.slice A s.1.length c, .bool s.2] 85 (0, 0)) ∧ s.1.length ≤ c ∧ Kd.C (Kd.int .u8) w0 A s.1.length s.1
def Ro (gr : Nat) (w w' : World) : Prop := Only (fun k => k = gr) w w'
namespace Ro
variable {gr : Nat} {w w1 w2 : World}
theorem refl : Ro gr w w := Only.refl _ _
theorem trans (h : Ro gr w w1) (k : Ro gr w1 w2) : Ro gr w w2 := Only.trans h k (fun _ _ hn h2 => hn h2)
theorem of_below (h : Below w.heap.size w w1) : Ro gr w w1 := Only.of_below h
theorem blk {g : Nat} {o : Obj} (h : Ro gr w w1) (hb : w.heap[g]? = some o) (hn : g ≠ gr) : w1.heap[g]? = some o := Only.blk h hb hn
theorem set (i : Nat) (v : Value) : Ro gr w (w.setCell ⟨gr, i, none⟩ v) := Only.setCell _ _ rfl
theorem below {B : Nat} (h : Ro gr w w1) (hB : B ≤ w.heap.size) (hg : B ≤ gr) : Below B w w1 := Only.below h hB (fun b hb hs => by omega)
theorem drewN (h : Ro gr w w1) (n : Nat) : Ro gr w (w1.drewN n) := h.trans (of_below (pw_below_drewN (Below.refl _ _) n))
theorem drew (h : Ro gr w w1) : Ro gr w w1.drew := h.trans (of_below (below_drew (Below.refl _ _)))
end Ro
namespace RAt
variable {w0 w w' : World} {gr : Nat} {s : Rs}
theorem below (h : RAt w0 w gr s) (hB : Below w.heap.size w w') : RAt w0 w' gr s := by
  obtain ⟨h1, h2, A, c, hb, h3⟩ := h
  exact ⟨h1, h2.trans (hB.mono h2.size), A, c, blk_below hb hB, h3⟩
theorem lt (h : RAt w0 w gr s) : gr < w.heap.size := by
  obtain ⟨_, _, A, c, hb, _⟩ := h
  exact blk_lt' hb
theorem neq {g : Nat} {cs : Array Value} {t : TypeId} (h : RAt w0 w gr s) (hg : w.heap[g]? = some (.cells cs t (0, 0))) (ht : t ≠ 85) : g ≠ gr := by
  obtain ⟨_, _, A, c, hb, _⟩ := h
  exact blk_ne hg hb ht
theorem far (h : RAt w0 w gr s) {p i : Nat} (hp : w0.heap.size ≤ p) (hn : p ≠ gr) (v : Value) : RAt w0 (w.setCell ⟨p, i, none⟩ v) gr s := by
  obtain ⟨h1, h2, A, c, hb, h3⟩ := h
  exact ⟨h1, h2.setCell hp v, A, c, (Below.heap_setCell _ _ _ _ (fun e => hn e.symm)).trans hb, h3⟩
end RAt
def RPost (w0 w : World) (gr : Nat) (v : Value) (s : Rs) (e : Ending) (w' : World) : Prop := e = .returned v ∧ RAt w0 w' gr s ∧ Ro gr w w'
def TPost (w0 w : World) (gr : Nat) (n : Int) (s : Rs) (e : Ending) (w' : World) : Prop :=
  ∃ A c, e = .returned (.slice A (takenR n s).length c) ∧ (takenR n s).length ≤ c ∧ Kd.C (Kd.int .u8) w0 A (takenR n s).length (takenR n s) ∧ RAt w0 w' gr (takeR n s) ∧ Ro gr w w'
theorem take_mem {w0 w : World} {gr c k : Nat} {A : Option Addr} {l : List Int} {bad b1 : Bool} (h1 : w0.heap.size ≤ gr) (h2 : Below w0.heap.size w0 w) (hb : w.heap[gr]? = some (.cells #[.slice A l.length c, .bool b1] 85 (0, 0))) (hc : l.length ≤ c) (hC : Kd.C (Kd.int .u8) w0 A l.length l)
    (hk : k ≤ l.length) : RAt w0 (w.setCell ⟨gr, 0, none⟩ (.slice (if c = k then A else A.map (·.add (k * 1))) (l.length - k) (c - k))) gr (l.drop k, b1) := by
  have hd : (l.drop k).length = l.length - k := List.length_drop
  refine ⟨h1, h2.setCell h1 _, _, c - k, ?_, ?_, Kd.C_drop hC hk hc⟩
  · rw [hd]
    exact (blk_set hb 0 (.slice (if c = k then A else A.map (·.add (k * 1))) (l.length - k) (c - k))).trans rfl
  · show (l.drop k).length ≤ _
    rw [hd]
    omega
set_option maxRecDepth 100000 in
set_option maxHeartbeats 4000000 in
theorem take_any {w0 w : World} {gr : Nat} {n : Int} {s : Rs} (hR : RAt w0 w gr s) (hn : I64 n) : Calls Tryz.prog 68 #[.pointer (some ⟨gr, 0, none⟩), .int .i64 n] w (TPost w0 w gr n s) := by
  obtain ⟨l, bad⟩ := s
  obtain ⟨h1, h2, A, c, hb, hc, hC⟩ := hR
  have hb : w.heap[gr]? = some (.cells #[.slice A l.length c, .bool bad] 85 (0, 0)) := hb
  have hc : l.length ≤ c := hc
  have hC : Kd.C (Kd.int .u8) w0 A l.length l := hC
  have hm := Kd.C_max hC
  have g0 : w.cell? ⟨gr, 0, none⟩ = some (.slice A l.length c) := (blk_cell hb 0).trans rfl
  have g1 : w.cell? ⟨gr, 1, none⟩ = some (.bool bad) := (blk_cell hb 1).trans rfl
  have f0 := blk_frozen hb 0
  have f1 := blk_frozen hb 1
  obtain ⟨i0, hi, hzz⟩ := Option.map_eq_some_iff.1 info5
  simp only [Prod.mk.injEq] at hzz
  obtain ⟨hz0, hz1, hz2⟩ := hzz
  by_cases hin : 0 ≤ n ∧ n ≤ l.length
  · obtain ⟨hn0, hn1⟩ := hin
    obtain ⟨k, rfl⟩ := Int.eq_ofNat_of_zero_le hn0
    have htk : tk (k : Int) l = k := by unfold tk; rw [if_pos ⟨hn0, hn1⟩]; rfl
    have htb : tbad (k : Int) l = false := by unfold tbad; rw [decide_eq_true ⟨hn0, hn1⟩]; rfl
    have hkl : k ≤ l.length := by omega
    have ht := cut_to (P := Tryz.prog) 33 5 .i64 Tryz.underlying33 hi A l.length c (k : Int) (by omega) hn1 hc
    have hf := cut_from (P := Tryz.prog) 33 5 .i64 Tryz.underlying33 hi 1 hz1 A l.length c (k : Int) (by omega) hn1
    rw [Int.toNat_natCast] at ht hf
    have HM := Lib.hid (take_mem (bad := bad) h1 h2 hb hc hC hkl)
    have HC := Lib.hid (Kd.C_take hC hkl)
    have hl : (l.take k).length = k := by rw [List.length_take]; omega
    have HL := Lib.hid hl
    have HTK := Lib.hid htk
    have HTB := Lib.hid htb
    have HCC := Lib.hid hc
    have d1 : decide ((k : Int) < 0) = false := decide_eq_false (by omega)
    have d2 : decide ((l.length : Int) < (k : Int)) = false := decide_eq_false (by omega)
    generalize (if c = k then A else A.map (·.add (k * 1))) = A1 at *
    clear hl htk htb hC hb h2 hi hz0 hz1 hz2 hn hc
    go_enter Tryz.func68, Tryz.ntmps68
    go_wp2_with fail
    go_ret
    refine ⟨A, c, ?_, ?_, ?_, ?_, Ro.set 0 _⟩
    · simp only [takenR, HTK.out, HL.out]; rfl
    · simp only [takenR, HTK.out, HL.out]; have := HCC.out; omega
    · simp only [takenR, HTK.out]; exact HC.out
    · simp only [takeR, HTK.out, HTB.out, Bool.or_false]; exact HM.out
  · have htk : tk n l = 0 := by unfold tk; rw [if_neg hin]
    have htb : tbad n l = true := by unfold tbad; rw [decide_eq_false hin]; rfl
    have ht := cut_to (P := Tryz.prog) 33 5 .i64 Tryz.underlying33 hi A l.length c 0 (by omega) (by omega) hc
    have hf := cut_from (P := Tryz.prog) 33 5 .i64 Tryz.underlying33 hi 1 hz1 A l.length c 0 (by omega) (by omega)
    have hb' : (w.setCell ⟨gr, 1, none⟩ (.bool true)).heap[gr]? = some (.cells #[.slice A l.length c, .bool true] 85 (0, 0)) := by simpa using blk_set hb 1 (.bool true)
    have HM := Lib.hid (take_mem (bad := bad) (k := 0) h1 (h2.setCell (p := ⟨gr, 1, none⟩) h1 (.bool true)) hb' hc hC (Nat.zero_le _))
    rw [show ((0 : Int)).toNat = 0 from rfl] at ht hf
    have HC := Lib.hid (Kd.C_take hC (Nat.zero_le l.length))
    have HTK := Lib.hid htk
    have HTB := Lib.hid htb
    have HMX := Lib.hid (Ro.trans (Ro.set (w := w) 1 (.bool true)) (Ro.set (gr := gr) 0 (.slice (if c = 0 then A else A.map (·.add (0 * 1))) (l.length - 0) (c - 0))))
    generalize (if c = 0 then A else A.map (·.add (0 * 1))) = A1 at *
    have HIN := Lib.hid hin
    clear htk htb hC hb hb' h2 hi hz0 hz1 hz2 hn hc hin
    by_cases hn0 : n < 0
    · have d1 : decide (n < 0) = true := decide_eq_true hn0
      clear hn0
      go_enter Tryz.func68, Tryz.ntmps68
      go_wp2_with fail
      go_ret
      refine ⟨A, c, ?_, ?_, ?_, ?_, HMX.out⟩
      · simp [takenR, HTK.out]
      · simp [takenR, HTK.out]
      · simp only [takenR, HTK.out]; exact HC.out
      · simp only [takeR, HTK.out, HTB.out, Bool.or_true]; exact HM.out
    · have d1 : decide (n < 0) = false := decide_eq_false hn0
      have d2 : decide ((l.length : Int) < n) = true := decide_eq_true (by have := HIN.out; omega)
      clear hn0
      go_enter Tryz.func68, Tryz.ntmps68
      go_wp2_with fail
      go_ret
      refine ⟨A, c, ?_, ?_, ?_, ?_, HMX.out⟩
      · simp [takenR, HTK.out]
      · simp [takenR, HTK.out]
      · simp only [takenR, HTK.out]; exact HC.out
      · simp only [takeR, HTK.out, HTB.out, Bool.or_true]; exact HM.out
end Go.Proofs.YtcfgmkmllcfjjaaGreatDoor
set_option linter.unusedVariables false
set_option linter.unusedSimpArgs false
namespace Go.Proofs.YtcfgmkmllcfjjaaGreatDoor
open Go.RowKit Go.Proofs.YtcfgmkmllcfjjaaGreatDoorW.PrintWords Go.Proofs.YtcfgmkmllcfjjaaGreatDoorW.PrintMore PImageAll
def intF (l : List Int) : Int × Int × Int := (wire_Int.f 40 l).getD (0, 0, 0)
theorem intF_any {l : List Int} (hB : Bytes l) (hl : l.length ≤ 4611686018427387904) : ∃ (v e : Int) (n : Nat), wire_Int.f 40 l = some (v, (n : Int), e) ∧ intF l = (v, (n : Int), e) ∧ I64 v ∧ ((e = 0 ∧ 0 < n ∧ n ≤ l.length) ∨ (e ≠ 0 ∧ n = 0)) := by
  obtain ⟨v, e, n, h1, h2, h3⟩ := Int_any hB hl
  exact ⟨v, e, n, h1, by unfold intF; rw [h1]; rfl, h2, h3⟩
def Rok (s : Rs) : Prop := Bytes s.1 ∧ s.1.length ≤ 4611686018427387904
theorem Rok.take {s : Rs} (h : Rok s) (n : Int) : Rok (takeR n s) := ⟨h.1.drop _, by have := h.2; simp only [takeR, List.length_drop]; omega⟩
theorem Rok.taken {s : Rs} (h : Rok s) (n : Int) : Bytes (takenR n s) := h.1.take _
theorem Rok.mark {s : Rs} (h : Rok s) (b : Bool) : Rok (s.1, b) := h
def numR (s : Rs) : Int × Rs := ((intF s.1).1, takeR (intF s.1).2.1 (s.1, s.2 || !((intF s.1).2.2 == 0)))
theorem Rok.num {s : Rs} (h : Rok s) : Rok (numR s).2 := Rok.take (h.mark _) _
theorem num_I64 {s : Rs} (h : Rok s) : I64 (numR s).1 := by
  obtain ⟨v, e, n, _, h2, h3, _⟩ := intF_any h.1 h.2
  unfold numR
  rw [h2]
  exact h3
theorem RAt.mark {w0 w : World} {gr : Nat} {s : Rs} (h : RAt w0 w gr s) (b : Bool) : RAt w0 (w.setCell ⟨gr, 1, none⟩ (.bool b)) gr (s.1, b) := by
  obtain ⟨h1, h2, A, c, hb, h3⟩ := h
  exact ⟨h1, h2.setCell h1 _, A, c, (blk_set hb 1 (.bool b)).trans rfl, h3⟩
theorem RAt.drewN {w0 w : World} {gr : Nat} {s : Rs} (h : RAt w0 w gr s) (n : Nat) : RAt w0 (w.drewN n) gr s := h.below (pw_below_drewN (Below.refl _ _) n)
theorem RAt.cells {w0 w : World} {gr : Nat} {s : Rs} (h : RAt w0 w gr s) : ∃ A c, w.cell? ⟨gr, 0, none⟩ = some (.slice A s.1.length c) ∧ w.cell? ⟨gr, 1, none⟩ = some (.bool s.2) ∧ w.frozen? ⟨gr, 1, none⟩ = false ∧ s.1.length ≤ c ∧ Kd.C (Kd.int .u8) w0 A s.1.length s.1 := by
  obtain ⟨h1, h2, A, c, hb, h3, h4⟩ := h
  exact ⟨A, c, (blk_cell hb 0).trans rfl, (blk_cell hb 1).trans rfl, blk_frozen hb 1, h3, h4⟩
set_option maxRecDepth 100000 in
set_option maxHeartbeats 4000000 in
theorem number_any {w0 w : World} {gr : Nat} {s : Rs} (hR : RAt w0 w gr s) (hs : Rok s) : Calls Tryz.prog 70 #[.pointer (some ⟨gr, 0, none⟩)] w (RPost w0 w gr (.int .i64 (numR s).1) (numR s).2) := by
  obtain ⟨v, e, n, hf, hF, hv, hen⟩ := intF_any hs.1 hs.2
  have hN : numR s = (v, takeR (n : Int) (s.1, s.2 || !(e == 0))) := by unfold numR; rw [hF]
  rw [hN]
  obtain ⟨A, c, g0, g1, f1, hc, hC⟩ := hR.cells
  have HI := Lib.hid (fun W hW => wire_Int.calls 40 A c s.1 v n e W (Kd.C_below hC hW) hc hf)
  have HT := Lib.hid (show ∀ W (b : Bool), RAt w0 W gr (s.1, b) → Calls Tryz.prog 68 #[.pointer (some ⟨gr, 0, none⟩), .int .i64 (n : Int)] W (TPost w0 W gr n (s.1, b)) from fun W b hW => take_any hW (by have := hs.2; have := hen.elim (fun h => h.2.2) (fun h => by omega : e ≠ 0 ∧ n = 0 → n ≤ s.1.length); exact ⟨by omega, by omega⟩))
  have HR := Lib.hid hR
  have hB := hR.2.1
  have HB := Lib.hid hB
  clear hN hF hf hR hC hc hs hB hen
  obtain ⟨l, bad⟩ := s
  have g1 : w.cell? ⟨gr, 1, none⟩ = some (.bool bad) := g1
  cases bad
  · obtain ⟨ne, hne⟩ : ∃ ne : Bool, (e != 0) = ne := ⟨_, rfl⟩
    have HNE := Lib.hid (show (false || !(e == 0)) = ne from by rw [← hne]; rfl)
    go_enter Tryz.func70, Tryz.ntmps70
    go_wp2_with (first
      | (go_at_call 105; refine (HI.out _ HB.out).mono ?_; rintro e w1 ⟨rfl, ⟨m1, rfl⟩⟩)
      | (go_at_call 68; refine (HT.out _ ne ((HR.out.drewN _).mark ne)).mono ?_; rintro e w2 ⟨A2, c2, rfl, hc2, hC2, hR2, hO2⟩; have hR2 := Lib.hid hR2; have hO2 := Lib.hid hO2))
    go_ret
    refine ⟨rfl, ?_, (Ro.refl.drewN _).trans ((Ro.set 1 _).trans hO2.out)⟩
    have := hR2.out
    rw [← HNE.out] at this
    exact this
  · go_enter Tryz.func70, Tryz.ntmps70
    go_wp2_with (first
      | (go_at_call 105; refine (HI.out _ HB.out).mono ?_; rintro e w1 ⟨rfl, ⟨m1, rfl⟩⟩)
      | (go_at_call 68; refine (HT.out _ true ((HR.out.drewN _).mark true)).mono ?_; rintro e w2 ⟨A2, c2, rfl, hc2, hC2, hR2, hO2⟩; have hR2 := Lib.hid hR2; have hO2 := Lib.hid hO2))
    go_ret
    exact ⟨rfl, hR2.out, (Ro.refl.drewN _).trans ((Ro.set 1 _).trans hO2.out)⟩
def textR (s : Rs) : ByteArray × Rs := (strOfNums (takenR (numR s).1 (numR s).2), takeR (numR s).1 (numR s).2)
theorem Rok.text {s : Rs} (h : Rok s) : Rok (textR s).2 := h.num.take _
set_option maxRecDepth 100000 in
set_option maxHeartbeats 4000000 in
theorem rtext_any {w0 w : World} {gr : Nat} {s : Rs} (hR : RAt w0 w gr s) (hs : Rok s) : Calls Tryz.prog 78 #[.pointer (some ⟨gr, 0, none⟩)] w (RPost w0 w gr (.string (textR s).1) (textR s).2) := by
  have HN := Lib.hid (number_any hR hs)
  have HT := Lib.hid (show ∀ W, RAt w0 W gr (numR s).2 → Calls Tryz.prog 68 #[.pointer (some ⟨gr, 0, none⟩), .int .i64 (numR s).1] W (TPost w0 W gr (numR s).1 (numR s).2) from fun W hW => take_any hW (num_I64 hs))
  have HCS := Lib.hid (show ∀ (W : World) A c, Below w0.heap.size w0 W → Kd.C (Kd.int .u8) w0 A (takenR (numR s).1 (numR s).2).length (takenR (numR s).1 (numR s).2) → (convert 33 9 (.slice A (takenR (numR s).1 (numR s).2).length c)).run Tryz.prog W = .ok (.string (textR s).1) W from fun W A c hB hC => Kd.C_string (P := Tryz.prog) Tryz.underlying33 Tryz.underlying5 Tryz.underlying9 (Kd.C_below hC hB))
  unfold textR at *
  clear hR
  go_enter Tryz.func78, Tryz.ntmps78
  go_wp2_with (first
    | (go_at_call 70; refine HN.out.mono ?_; rintro e w1 ⟨rfl, hR1, hO1⟩; have HR1 := Lib.hid hR1; have HO1 := Lib.hid hO1; clear hR1 hO1)
    | (go_at_call 68; refine (HT.out _ HR1.out).mono ?_; rintro e w2 ⟨A2, c2, rfl, hc2, hC2, hR2, hO2⟩; have hcs := HCS.out w2 A2 c2 hR2.2.1 hC2; have HR2 := Lib.hid hR2; have HO2 := Lib.hid hO2; clear hR2 hO2 hC2))
  go_ret
  exact ⟨rfl, HR2.out, HO1.out.trans HO2.out⟩
def byteR (s : Rs) : Int × Rs := ((takenR 1 s).headD 0, takeR 1 s)
theorem Rok.byte {s : Rs} (h : Rok s) : Rok (byteR s).2 := h.take _
theorem byte_rng {s : Rs} (h : Rok s) : 0 ≤ (byteR s).1 ∧ (byteR s).1 < 256 := by
  have hB := h.taken 1
  unfold byteR
  cases hx : takenR 1 s with
  | nil => exact ⟨show (0 : Int) ≤ 0 by decide, show (0 : Int) < 256 by decide⟩
  | cons x xs => exact hB x (by rw [hx]; exact List.mem_cons_self)
set_option maxRecDepth 100000 in
set_option maxHeartbeats 4000000 in
theorem byte_any {w0 w : World} {gr : Nat} {s : Rs} (hR : RAt w0 w gr s) : Calls Tryz.prog 81 #[.pointer (some ⟨gr, 0, none⟩)] w (RPost w0 w gr (.int .u8 (byteR s).1) (byteR s).2) := by
  have hT := take_any hR (n := 1) ⟨by decide, by decide⟩
  unfold TPost at hT
  unfold byteR
  have hB := hR.2.1
  clear hR
  generalize takenR 1 s = t at *
  generalize takeR 1 s = s2 at *
  cases t with
  | nil =>
    have HT := Lib.hid hT
    clear hT
    go_enter Tryz.func81, Tryz.ntmps81
    go_wp2_with (go_at_call 68; refine HT.out.mono ?_; rintro e w2 ⟨A2, c2, rfl, hc2, hC2, hR2, hO2⟩; have HC2 := Lib.hid hC2; have HR2 := Lib.hid hR2; have HO2 := Lib.hid hO2; clear hR2 hO2 hC2)
    go_ret
    exact ⟨rfl, HR2.out, HO2.out⟩
  | cons x xs =>
    have HT := Lib.hid hT
    clear hT
    have d1 : (((x :: xs).length : Int) == 0) = false := by rw [List.length_cons, beq_eq_false_iff_ne]; omega
    have d2 : 0 < (x :: xs).length := by rw [List.length_cons]; omega
    have HX := Lib.hid (show rd (x :: xs) 0 = x from rfl)
    show Calls Tryz.prog 81 #[.pointer (some ⟨gr, 0, none⟩)] w (RPost w0 w gr (.int .u8 x) s2)
    generalize x :: xs = t at *
    go_enter Tryz.func81, Tryz.ntmps81
    go_wp2_with fail
    refine HT.out.mono ?_
    rintro e w2 ⟨A2, c2, rfl, hc2, hC2, hR2, hO2⟩
    have hC2' := Kd.C_below hC2 hR2.2.1
    obtain ⟨ad2, rfl, hx2⟩ := Kd.at_int hC2' 0 (by decide) (by omega)
    rw [HX.out] at hx2
    have hx2 : w2.cell? ad2 = some (.int .u8 x) := hx2
    have HR2 := Lib.hid hR2
    have HO2 := Lib.hid hO2
    clear hR2 hO2 hC2 hC2'
    go_wp2_with fail
    go_ret
    exact ⟨rfl, HR2.out, HO2.out⟩
def truthR (s : Rs) : Bool × Rs := ((byteR s).1 == 1, (byteR s).2)
theorem Rok.truth {s : Rs} (h : Rok s) : Rok (truthR s).2 := h.take _
set_option maxRecDepth 100000 in
set_option maxHeartbeats 4000000 in
theorem rtruth_any {w0 w : World} {gr : Nat} {s : Rs} (hR : RAt w0 w gr s) : Calls Tryz.prog 87 #[.pointer (some ⟨gr, 0, none⟩)] w (RPost w0 w gr (.bool (truthR s).1) (truthR s).2) := by
  have HT := Lib.hid (byte_any hR)
  unfold truthR
  clear hR
  generalize byteR s = r at *
  obtain ⟨b, s2⟩ := r
  go_enter Tryz.func87, Tryz.ntmps87
  go_wp2_with (go_at_call 81; refine HT.out.mono ?_; rintro e w2 ⟨rfl, hR2, hO2⟩; have HR2 := Lib.hid hR2; have HO2 := Lib.hid hO2; clear hR2 hO2)
  go_ret
  exact ⟨rfl, HR2.out, HO2.out⟩
end Go.Proofs.YtcfgmkmllcfjjaaGreatDoor
