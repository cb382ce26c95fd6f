import Derived.Test.YtcfgmkmllcfjjaaDoorZImE
set_option linter.unusedVariables false
set_option linter.unusedSimpArgs false
namespace Go.Proofs.YtcfgmkmllcfjjaaDoor
open Go.RowKit Go.Proofs.YtcfgmkmllcfjjaaDoorW.PrintWords Go.Proofs.YtcfgmkmllcfjjaaDoorW.PrintMore PImageForm
theorem atk61N {w : World} {A : Option Addr} {n : Nat} {xs : List S61} (h : Kd.C k61 w A n xs) (k : Nat) (hk : k < n) (hk' : k < xs.length) : ∃ ad, A = some ad ∧ w.cell? (ad.add (k * 2)) = some (.string xs[k].f0) ∧ w.cell? ⟨(ad.add (k * 2)).block, (ad.add (k * 2)).off + 1, none⟩ = some (.int .i64 xs[k].f1) := by
  have h1 := at_T61 h (k : Int) (by omega) (by omega)
  have h2 : rd_T61 xs (k : Int) = xs[k] := by simp [rd_T61, List.getD_eq_getElem?_getD, List.getElem?_eq_getElem hk']
  simp only [Int.toNat_natCast] at h1
  rw [h2] at h1
  exact h1
set_option maxHeartbeats 1000000 in
theorem putAttrs_any (St : Nat → World → Prop) (gw : Nat) (p0 : Nat) (A : Option Addr) (c : Nat) (xs : List S61) (w : World) (hc : xs.length ≤ c) (hcm : xs.length ≤ 9223372036854775807)
    (hN : Calls Tryd.prog 33 #[.pointer (some ⟨gw, 0, none⟩), .slice (some ⟨w.heap.size, 0, none⟩) 1 1] (w.alloc (.cells #[.int .i64 (xs.length : Int)] 2)) fun e w' => e = .returned (.tuple #[]) ∧ St 0 w')
    (w0 : World) (hB : ∀ k W, St k W → Below w0.heap.size w0 W) (hC : Kd.C k61 w0 A xs.length xs)
    (hF : ∀ (k : Nat) (hk : k < xs.length) (W : World), St k W →  Calls Tryd.prog 39 #[.agg #[.string xs[k].f0, .int .i64 xs[k].f1], .pointer (some ⟨p0, 0, none⟩)] (W.alloc (.cells #[.string xs[k].f0, .int .i64 xs[k].f1] 61)) fun e w' => e = .returned (.tuple #[]) ∧ St (k + 1) w') :
    Calls Tryd.prog 38 #[.pointer (some ⟨gw, 0, none⟩), .slice A xs.length c, .func (.func 39) #[] #[.pointer (some ⟨p0, 0, none⟩)]] w fun e w' => e = .returned (.tuple #[]) ∧ St xs.length w' := by
  have HN := Lib.hid hN
  have HC := Lib.hid hC
  have HBW := Lib.hid hB
  have HF := Lib.hid hF
  clear hN hC hF hB
  go_enter Tryd.func38, Tryd.ntmps38
  go_wp2_with (go_at_call 33; refine HN.out.mono ?_; rintro e w1 ⟨rfl, hS⟩; have HS := Lib.hid hS; clear hS)
  go_loopw [15] (fun t15 wr => ∃ k : Nat, k ≤ xs.length ∧ t15 = .int .i64 k ∧ Hid (St k wr)) (fun t15 _ => xs.length - (intOf t15).toNat)
  case atStart => exact ⟨0, by omega, rfl, HS⟩
  case round =>
    obtain ⟨k, hk, rfl, hS⟩ := hrel
    by_cases hlt : k < xs.length
    · have i1 : (0 : Int) ≤ (k : Int) := by omega
      have i2 : (k : Int) < xs.length := by omega
      obtain ⟨ad, rfl, c10, c11⟩ := atk61N HC.out k hlt hlt
      have hbk := HBW.out k wr hS.out
      have c10 := pw_cell_below hbk c10
      have c11 := pw_cell_below hbk c11
      clear hbk
      have HFK := Lib.hid (HF.out k hlt wr hS.out)
      generalize xs[k] = x at *
      go_wp2_with (go_at_call 39; refine HFK.out.mono ?_; rintro e w1 ⟨rfl, hS1⟩; have HS1 := Lib.hid hS1; clear hS1)
      go_roundw
      case rel => exact ⟨k + 1, by omega, by go_num, HS1⟩
      case measure => simp [intOf]; omega
    · obtain rfl : k = xs.length := by omega
      go_wp2_with fail
      go_end0
      exact ⟨rfl, hS.out⟩
theorem atk64N {w : World} {A : Option Addr} {n : Nat} {xs : List S64} (h : Kd.C k64 w A n xs) (k : Nat) (hk : k < n) (hk' : k < xs.length) : ∃ ad A1 c1, A = some ad ∧ w.cell? (ad.add (k * 2)) = some (.string xs[k].f0) ∧ w.cell? ⟨(ad.add (k * 2)).block, (ad.add (k * 2)).off + 1, none⟩ = some (.slice A1 xs[k].f1.length c1) ∧ xs[k].f1.length ≤ c1 ∧ k61.C w A1 xs[k].f1.length xs[k].f1 := by
  have h1 := at_T64 h (k : Int) (by omega) (by omega)
  have h2 : rd_T64 xs (k : Int) = xs[k] := by simp [rd_T64, List.getD_eq_getElem?_getD, List.getElem?_eq_getElem hk']
  simp only [Int.toNat_natCast] at h1
  rw [h2] at h1
  exact h1
set_option maxHeartbeats 1000000 in
theorem putTypes_any (St : Nat → World → Prop) (gw : Nat) (p0 : Nat) (A : Option Addr) (c : Nat) (xs : List S64) (w : World) (hc : xs.length ≤ c) (hcm : xs.length ≤ 9223372036854775807)
    (hN : Calls Tryd.prog 33 #[.pointer (some ⟨gw, 0, none⟩), .slice (some ⟨w.heap.size, 0, none⟩) 1 1] (w.alloc (.cells #[.int .i64 (xs.length : Int)] 2)) fun e w' => e = .returned (.tuple #[]) ∧ St 0 w')
    (w0 : World) (hB : ∀ k W, St k W → Below w0.heap.size w0 W) (hC : Kd.C k64 w0 A xs.length xs)
    (hF : ∀ (k : Nat) (hk : k < xs.length) (W : World), St k W → ∀ (A1 : Option Addr) (c1 : Nat), xs[k].f1.length ≤ c1 → k61.C w0 A1 xs[k].f1.length xs[k].f1 → Calls Tryd.prog 36 #[.agg #[.string xs[k].f0, .slice A1 xs[k].f1.length c1], .pointer (some ⟨p0, 0, none⟩)] (W.alloc (.cells #[.string xs[k].f0, .slice A1 xs[k].f1.length c1] 64)) fun e w' => e = .returned (.tuple #[]) ∧ St (k + 1) w') :
    Calls Tryd.prog 35 #[.pointer (some ⟨gw, 0, none⟩), .slice A xs.length c, .func (.func 36) #[] #[.pointer (some ⟨p0, 0, none⟩)]] w fun e w' => e = .returned (.tuple #[]) ∧ St xs.length w' := by
  have HN := Lib.hid hN
  have HC := Lib.hid hC
  have HBW := Lib.hid hB
  have HF := Lib.hid hF
  clear hN hC hF hB
  go_enter Tryd.func35, Tryd.ntmps35
  go_wp2_with (go_at_call 33; refine HN.out.mono ?_; rintro e w1 ⟨rfl, hS⟩; have HS := Lib.hid hS; clear hS)
  go_loopw [15] (fun t15 wr => ∃ k : Nat, k ≤ xs.length ∧ t15 = .int .i64 k ∧ Hid (St k wr)) (fun t15 _ => xs.length - (intOf t15).toNat)
  case atStart => exact ⟨0, by omega, rfl, HS⟩
  case round =>
    obtain ⟨k, hk, rfl, hS⟩ := hrel
    by_cases hlt : k < xs.length
    · have i1 : (0 : Int) ≤ (k : Int) := by omega
      have i2 : (k : Int) < xs.length := by omega
      obtain ⟨ad, A1, c1, rfl, c10, c11, hl1, hr1⟩ := atk64N HC.out k hlt hlt
      have hbk := HBW.out k wr hS.out
      have c10 := pw_cell_below hbk c10
      have c11 := pw_cell_below hbk c11
      clear hbk
      have HFK := Lib.hid (HF.out k hlt wr hS.out _ _ hl1 hr1)
      generalize xs[k] = x at *
      go_wp2_with (go_at_call 36; refine HFK.out.mono ?_; rintro e w1 ⟨rfl, hS1⟩; have HS1 := Lib.hid hS1; clear hS1)
      go_roundw
      case rel => exact ⟨k + 1, by omega, by go_num, HS1⟩
      case measure => simp [intOf]; omega
    · obtain rfl : k = xs.length := by omega
      go_wp2_with fail
      go_end0
      exact ⟨rfl, hS.out⟩
theorem atk57N {w : World} {A : Option Addr} {n : Nat} {xs : List S57} (h : Kd.C k57 w A n xs) (k : Nat) (hk : k < n) (hk' : k < xs.length) : ∃ ad, A = some ad ∧ w.cell? (ad.add (k * 4)) = some (.string xs[k].f0) ∧ w.cell? ⟨(ad.add (k * 4)).block, (ad.add (k * 4)).off + 1, none⟩ = some (.string xs[k].f1) ∧ w.cell? ⟨(ad.add (k * 4)).block, (ad.add (k * 4)).off + 2, none⟩ = some (.int .i64 xs[k].f2) ∧ w.cell? ⟨(ad.add (k * 4)).block, (ad.add (k * 4)).off + 3, none⟩ = some (.bool xs[k].f3) := by
  have h1 := at_T57 h (k : Int) (by omega) (by omega)
  have h2 : rd_T57 xs (k : Int) = xs[k] := by simp [rd_T57, List.getD_eq_getElem?_getD, List.getElem?_eq_getElem hk']
  simp only [Int.toNat_natCast] at h1
  rw [h2] at h1
  exact h1
set_option maxHeartbeats 1000000 in
theorem putSaved_any (St : Nat → World → Prop) (gw : Nat) (p0 : Nat) (A : Option Addr) (c : Nat) (xs : List S57) (w : World) (hc : xs.length ≤ c) (hcm : xs.length ≤ 9223372036854775807)
    (hN : Calls Tryd.prog 33 #[.pointer (some ⟨gw, 0, none⟩), .slice (some ⟨w.heap.size, 0, none⟩) 1 1] (w.alloc (.cells #[.int .i64 (xs.length : Int)] 2)) fun e w' => e = .returned (.tuple #[]) ∧ St 0 w')
    (w0 : World) (hB : ∀ k W, St k W → Below w0.heap.size w0 W) (hC : Kd.C k57 w0 A xs.length xs)
    (hF : ∀ (k : Nat) (hk : k < xs.length) (W : World), St k W →  Calls Tryd.prog 47 #[.agg #[.string xs[k].f0, .string xs[k].f1, .int .i64 xs[k].f2, .bool xs[k].f3], .pointer (some ⟨p0, 0, none⟩)] (W.alloc (.cells #[.string xs[k].f0, .string xs[k].f1, .int .i64 xs[k].f2, .bool xs[k].f3] 57)) fun e w' => e = .returned (.tuple #[]) ∧ St (k + 1) w') :
    Calls Tryd.prog 46 #[.pointer (some ⟨gw, 0, none⟩), .slice A xs.length c, .func (.func 47) #[] #[.pointer (some ⟨p0, 0, none⟩)]] w fun e w' => e = .returned (.tuple #[]) ∧ St xs.length w' := by
  have HN := Lib.hid hN
  have HC := Lib.hid hC
  have HBW := Lib.hid hB
  have HF := Lib.hid hF
  clear hN hC hF hB
  go_enter Tryd.func46, Tryd.ntmps46
  go_wp2_with (go_at_call 33; refine HN.out.mono ?_; rintro e w1 ⟨rfl, hS⟩; have HS := Lib.hid hS; clear hS)
  go_loopw [15] (fun t15 wr => ∃ k : Nat, k ≤ xs.length ∧ t15 = .int .i64 k ∧ Hid (St k wr)) (fun t15 _ => xs.length - (intOf t15).toNat)
  case atStart => exact ⟨0, by omega, rfl, HS⟩
  case round =>
    obtain ⟨k, hk, rfl, hS⟩ := hrel
    by_cases hlt : k < xs.length
    · have i1 : (0 : Int) ≤ (k : Int) := by omega
      have i2 : (k : Int) < xs.length := by omega
      obtain ⟨ad, rfl, c10, c11, c12, c13⟩ := atk57N HC.out k hlt hlt
      have hbk := HBW.out k wr hS.out
      have c10 := pw_cell_below hbk c10
      have c11 := pw_cell_below hbk c11
      have c12 := pw_cell_below hbk c12
      have c13 := pw_cell_below hbk c13
      clear hbk
      have HFK := Lib.hid (HF.out k hlt wr hS.out)
      generalize xs[k] = x at *
      go_wp2_with (go_at_call 47; refine HFK.out.mono ?_; rintro e w1 ⟨rfl, hS1⟩; have HS1 := Lib.hid hS1; clear hS1)
      go_roundw
      case rel => exact ⟨k + 1, by omega, by go_num, HS1⟩
      case measure => simp [intOf]; omega
    · obtain rfl : k = xs.length := by omega
      go_wp2_with fail
      go_end0
      exact ⟨rfl, hS.out⟩
theorem atk71N {w : World} {A : Option Addr} {n : Nat} {xs : List S71} (h : Kd.C k71 w A n xs) (k : Nat) (hk : k < n) (hk' : k < xs.length) : ∃ ad A1 c1, A = some ad ∧ w.cell? (ad.add (k * 5)) = some (.int .i64 xs[k].f0) ∧ w.cell? ⟨(ad.add (k * 5)).block, (ad.add (k * 5)).off + 1, none⟩ = some (.string xs[k].f1.f0) ∧ w.cell? ⟨(ad.add (k * 5)).block, (ad.add (k * 5)).off + 2, none⟩ = some (.int .i64 xs[k].f1.f1) ∧ w.cell? ⟨(ad.add (k * 5)).block, (ad.add (k * 5)).off + 3, none⟩ = some (.slice A1 xs[k].f1.f2.length c1) ∧ w.cell? ⟨(ad.add (k * 5)).block, (ad.add (k * 5)).off + 4, none⟩ = some (.bool xs[k].f2) ∧ xs[k].f1.f2.length ≤ c1 ∧ k66.C w A1 xs[k].f1.f2.length xs[k].f1.f2 := by
  have h1 := at_T71 h (k : Int) (by omega) (by omega)
  have h2 : rd_T71 xs (k : Int) = xs[k] := by simp [rd_T71, List.getD_eq_getElem?_getD, List.getElem?_eq_getElem hk']
  simp only [Int.toNat_natCast] at h1
  rw [h2] at h1
  exact h1
set_option maxHeartbeats 1000000 in
theorem putSeens_any (St : Nat → World → Prop) (gw : Nat) (p0 p1 : Nat) (A : Option Addr) (c : Nat) (xs : List S71) (w : World) (hc : xs.length ≤ c) (hcm : xs.length ≤ 9223372036854775807)
    (hN : Calls Tryd.prog 33 #[.pointer (some ⟨gw, 0, none⟩), .slice (some ⟨w.heap.size, 0, none⟩) 1 1] (w.alloc (.cells #[.int .i64 (xs.length : Int)] 2)) fun e w' => e = .returned (.tuple #[]) ∧ St 0 w')
    (w0 : World) (hB : ∀ k W, St k W → Below w0.heap.size w0 W) (hC : Kd.C k71 w0 A xs.length xs)
    (hF : ∀ (k : Nat) (hk : k < xs.length) (W : World), St k W → ∀ (A1 : Option Addr) (c1 : Nat), xs[k].f1.f2.length ≤ c1 → k66.C w0 A1 xs[k].f1.f2.length xs[k].f1.f2 → Calls Tryd.prog 53 #[.agg #[.int .i64 xs[k].f0, .string xs[k].f1.f0, .int .i64 xs[k].f1.f1, .slice A1 xs[k].f1.f2.length c1, .bool xs[k].f2], .pointer (some ⟨p0, 0, none⟩), .pointer (some ⟨p1, 0, none⟩)] (W.alloc (.cells #[.int .i64 xs[k].f0, .string xs[k].f1.f0, .int .i64 xs[k].f1.f1, .slice A1 xs[k].f1.f2.length c1, .bool xs[k].f2] 71)) fun e w' => e = .returned (.tuple #[]) ∧ St (k + 1) w') :
    Calls Tryd.prog 52 #[.pointer (some ⟨gw, 0, none⟩), .slice A xs.length c, .func (.func 53) #[] #[.pointer (some ⟨p0, 0, none⟩), .pointer (some ⟨p1, 0, none⟩)]] w fun e w' => e = .returned (.tuple #[]) ∧ St xs.length w' := by
  have HN := Lib.hid hN
  have HC := Lib.hid hC
  have HBW := Lib.hid hB
  have HF := Lib.hid hF
  clear hN hC hF hB
  go_enter Tryd.func52, Tryd.ntmps52
  go_wp2_with (go_at_call 33; refine HN.out.mono ?_; rintro e w1 ⟨rfl, hS⟩; have HS := Lib.hid hS; clear hS)
  go_loopw [15] (fun t15 wr => ∃ k : Nat, k ≤ xs.length ∧ t15 = .int .i64 k ∧ Hid (St k wr)) (fun t15 _ => xs.length - (intOf t15).toNat)
  case atStart => exact ⟨0, by omega, rfl, HS⟩
  case round =>
    obtain ⟨k, hk, rfl, hS⟩ := hrel
    by_cases hlt : k < xs.length
    · have i1 : (0 : Int) ≤ (k : Int) := by omega
      have i2 : (k : Int) < xs.length := by omega
      obtain ⟨ad, A1, c1, rfl, c10, c11, c12, c13, c14, hl1, hr1⟩ := atk71N HC.out k hlt hlt
      have hbk := HBW.out k wr hS.out
      have c10 := pw_cell_below hbk c10
      have c11 := pw_cell_below hbk c11
      have c12 := pw_cell_below hbk c12
      have c13 := pw_cell_below hbk c13
      have c14 := pw_cell_below hbk c14
      clear hbk
      have HFK := Lib.hid (HF.out k hlt wr hS.out _ _ hl1 hr1)
      generalize xs[k] = x at *
      go_wp2_with (go_at_call 53; refine HFK.out.mono ?_; rintro e w1 ⟨rfl, hS1⟩; have HS1 := Lib.hid hS1; clear hS1)
      go_roundw
      case rel => exact ⟨k + 1, by omega, by go_num, HS1⟩
      case measure => simp [intOf]; omega
    · obtain rfl : k = xs.length := by omega
      go_wp2_with fail
      go_end0
      exact ⟨rfl, hS.out⟩
end Go.Proofs.YtcfgmkmllcfjjaaDoor
