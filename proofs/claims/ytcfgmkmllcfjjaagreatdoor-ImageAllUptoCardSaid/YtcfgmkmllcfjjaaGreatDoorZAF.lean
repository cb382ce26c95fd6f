import Derived.Test.YtcfgmkmllcfjjaaGreatDoorZAE
set_option linter.unusedVariables false
set_option linter.unusedSimpArgs false
namespace Go.Proofs.YtcfgmkmllcfjjaaGreatDoor
open Go.RowKit Go.Proofs.YtcfgmkmllcfjjaaGreatDoorW.PrintWords Go.Proofs.YtcfgmkmllcfjjaaGreatDoorW.PrintMore PImageAll
theorem atk58N {w : World} {A : Option Addr} {n : Nat} {xs : List S58} (h : Kd.C k58 w A n xs) (k : Nat) (hk : k < n) (hk' : k < xs.length) : ∃ ad, A = some ad ∧ w.cell? (ad.add (k * 2)) = some (.string xs[k].f0) ∧ w.cell? ⟨(ad.add (k * 2)).block, (ad.add (k * 2)).off + 1, none⟩ = some (.int .i64 xs[k].f1) := by
  have h1 := at_T58 h (k : Int) (by omega) (by omega)
  have h2 : rd_T58 xs (k : Int) = xs[k] := by simp [rd_T58, List.getD_eq_getElem?_getD, List.getElem?_eq_getElem hk']
  simp only [Int.toNat_natCast] at h1
  rw [h2] at h1
  exact h1
set_option maxHeartbeats 1000000 in
theorem putAttrs_any (St : Nat → World → Prop) (gw : Nat) (p0 : Nat) (A : Option Addr) (c : Nat) (xs : List S58) (w : World) (hc : xs.length ≤ c) (hcm : xs.length ≤ 9223372036854775807)
    (hN : Calls Tryz.prog 69 #[.pointer (some ⟨gw, 0, none⟩), .slice (some ⟨w.heap.size, 0, none⟩) 1 1] (w.alloc (.cells #[.int .i64 (xs.length : Int)] 2)) fun e w' => e = .returned (.tuple #[]) ∧ St 0 w')
    (w0 : World) (hB : ∀ k W, St k W → Below w0.heap.size w0 W) (hC : Kd.C k58 w0 A xs.length xs)
    (hF : ∀ (k : Nat) (hk : k < xs.length) (W : World), St k W →  Calls Tryz.prog 75 #[.agg #[.string xs[k].f0, .int .i64 xs[k].f1], .pointer (some ⟨p0, 0, none⟩)] (W.alloc (.cells #[.string xs[k].f0, .int .i64 xs[k].f1] 58)) fun e w' => e = .returned (.tuple #[]) ∧ St (k + 1) w') :
    Calls Tryz.prog 74 #[.pointer (some ⟨gw, 0, none⟩), .slice A xs.length c, .func (.func 75) #[] #[.pointer (some ⟨p0, 0, none⟩)]] w fun e w' => e = .returned (.tuple #[]) ∧ St xs.length w' := by
  have HN := Lib.hid hN
  have HC := Lib.hid hC
  have HBW := Lib.hid hB
  have HF := Lib.hid hF
  clear hN hC hF hB
  go_enter Tryz.func74, Tryz.ntmps74
  go_wp2_with (go_at_call 69; refine HN.out.mono ?_; rintro e w1 ⟨rfl, hS⟩; have HS := Lib.hid hS; clear hS)
  go_loopw [15] (fun t15 wr => ∃ k : Nat, k ≤ xs.length ∧ t15 = .int .i64 k ∧ Hid (St k wr)) (fun t15 _ => xs.length - (intOf t15).toNat)
  case atStart => exact ⟨0, by omega, rfl, HS⟩
  case round =>
    obtain ⟨k, hk, rfl, hS⟩ := hrel
    by_cases hlt : k < xs.length
    · have i1 : (0 : Int) ≤ (k : Int) := by omega
      have i2 : (k : Int) < xs.length := by omega
      obtain ⟨ad, rfl, c10, c11⟩ := atk58N HC.out k hlt hlt
      have hbk := HBW.out k wr hS.out
      have c10 := pw_cell_below hbk c10
      have c11 := pw_cell_below hbk c11
      clear hbk
      have HFK := Lib.hid (HF.out k hlt wr hS.out)
      generalize xs[k] = x at *
      go_wp2_with (go_at_call 75; refine HFK.out.mono ?_; rintro e w1 ⟨rfl, hS1⟩; have HS1 := Lib.hid hS1; clear hS1)
      go_roundw
      case rel => exact ⟨k + 1, by omega, by go_num, HS1⟩
      case measure => simp [intOf]; omega
    · obtain rfl : k = xs.length := by omega
      go_wp2_with fail
      go_end0
      exact ⟨rfl, hS.out⟩
theorem atk56N {w : World} {A : Option Addr} {n : Nat} {xs : List S56} (h : Kd.C k56 w A n xs) (k : Nat) (hk : k < n) (hk' : k < xs.length) : ∃ ad A1 c1, A = some ad ∧ w.cell? (ad.add (k * 2)) = some (.string xs[k].f0) ∧ w.cell? ⟨(ad.add (k * 2)).block, (ad.add (k * 2)).off + 1, none⟩ = some (.slice A1 xs[k].f1.length c1) ∧ xs[k].f1.length ≤ c1 ∧ k58.C w A1 xs[k].f1.length xs[k].f1 := by
  have h1 := at_T56 h (k : Int) (by omega) (by omega)
  have h2 : rd_T56 xs (k : Int) = xs[k] := by simp [rd_T56, List.getD_eq_getElem?_getD, List.getElem?_eq_getElem hk']
  simp only [Int.toNat_natCast] at h1
  rw [h2] at h1
  exact h1
set_option maxHeartbeats 1000000 in
theorem putTypes_any (St : Nat → World → Prop) (gw : Nat) (p0 : Nat) (A : Option Addr) (c : Nat) (xs : List S56) (w : World) (hc : xs.length ≤ c) (hcm : xs.length ≤ 9223372036854775807)
    (hN : Calls Tryz.prog 69 #[.pointer (some ⟨gw, 0, none⟩), .slice (some ⟨w.heap.size, 0, none⟩) 1 1] (w.alloc (.cells #[.int .i64 (xs.length : Int)] 2)) fun e w' => e = .returned (.tuple #[]) ∧ St 0 w')
    (w0 : World) (hB : ∀ k W, St k W → Below w0.heap.size w0 W) (hC : Kd.C k56 w0 A xs.length xs)
    (hF : ∀ (k : Nat) (hk : k < xs.length) (W : World), St k W → ∀ (A1 : Option Addr) (c1 : Nat), xs[k].f1.length ≤ c1 → k58.C w0 A1 xs[k].f1.length xs[k].f1 → Calls Tryz.prog 72 #[.agg #[.string xs[k].f0, .slice A1 xs[k].f1.length c1], .pointer (some ⟨p0, 0, none⟩)] (W.alloc (.cells #[.string xs[k].f0, .slice A1 xs[k].f1.length c1] 56)) fun e w' => e = .returned (.tuple #[]) ∧ St (k + 1) w') :
    Calls Tryz.prog 71 #[.pointer (some ⟨gw, 0, none⟩), .slice A xs.length c, .func (.func 72) #[] #[.pointer (some ⟨p0, 0, none⟩)]] w fun e w' => e = .returned (.tuple #[]) ∧ St xs.length w' := by
  have HN := Lib.hid hN
  have HC := Lib.hid hC
  have HBW := Lib.hid hB
  have HF := Lib.hid hF
  clear hN hC hF hB
  go_enter Tryz.func71, Tryz.ntmps71
  go_wp2_with (go_at_call 69; refine HN.out.mono ?_; rintro e w1 ⟨rfl, hS⟩; have HS := Lib.hid hS; clear hS)
  go_loopw [15] (fun t15 wr => ∃ k : Nat, k ≤ xs.length ∧ t15 = .int .i64 k ∧ Hid (St k wr)) (fun t15 _ => xs.length - (intOf t15).toNat)
  case atStart => exact ⟨0, by omega, rfl, HS⟩
  case round =>
    obtain ⟨k, hk, rfl, hS⟩ := hrel
    by_cases hlt : k < xs.length
    · have i1 : (0 : Int) ≤ (k : Int) := by omega
      have i2 : (k : Int) < xs.length := by omega
      obtain ⟨ad, A1, c1, rfl, c10, c11, hl1, hr1⟩ := atk56N HC.out k hlt hlt
      have hbk := HBW.out k wr hS.out
      have c10 := pw_cell_below hbk c10
      have c11 := pw_cell_below hbk c11
      clear hbk
      have HFK := Lib.hid (HF.out k hlt wr hS.out _ _ hl1 hr1)
      generalize xs[k] = x at *
      go_wp2_with (go_at_call 72; refine HFK.out.mono ?_; rintro e w1 ⟨rfl, hS1⟩; have HS1 := Lib.hid hS1; clear hS1)
      go_roundw
      case rel => exact ⟨k + 1, by omega, by go_num, HS1⟩
      case measure => simp [intOf]; omega
    · obtain rfl : k = xs.length := by omega
      go_wp2_with fail
      go_end0
      exact ⟨rfl, hS.out⟩
theorem atk60N {w : World} {A : Option Addr} {n : Nat} {xs : List S60} (h : Kd.C k60 w A n xs) (k : Nat) (hk : k < n) (hk' : k < xs.length) : ∃ ad, A = some ad ∧ w.cell? (ad.add (k * 4)) = some (.string xs[k].f0) ∧ w.cell? ⟨(ad.add (k * 4)).block, (ad.add (k * 4)).off + 1, none⟩ = some (.string xs[k].f1) ∧ w.cell? ⟨(ad.add (k * 4)).block, (ad.add (k * 4)).off + 2, none⟩ = some (.int .i64 xs[k].f2) ∧ w.cell? ⟨(ad.add (k * 4)).block, (ad.add (k * 4)).off + 3, none⟩ = some (.bool xs[k].f3) := by
  have h1 := at_T60 h (k : Int) (by omega) (by omega)
  have h2 : rd_T60 xs (k : Int) = xs[k] := by simp [rd_T60, List.getD_eq_getElem?_getD, List.getElem?_eq_getElem hk']
  simp only [Int.toNat_natCast] at h1
  rw [h2] at h1
  exact h1
set_option maxHeartbeats 1000000 in
theorem putSaved_any (St : Nat → World → Prop) (gw : Nat) (p0 : Nat) (A : Option Addr) (c : Nat) (xs : List S60) (w : World) (hc : xs.length ≤ c) (hcm : xs.length ≤ 9223372036854775807)
    (hN : Calls Tryz.prog 69 #[.pointer (some ⟨gw, 0, none⟩), .slice (some ⟨w.heap.size, 0, none⟩) 1 1] (w.alloc (.cells #[.int .i64 (xs.length : Int)] 2)) fun e w' => e = .returned (.tuple #[]) ∧ St 0 w')
    (w0 : World) (hB : ∀ k W, St k W → Below w0.heap.size w0 W) (hC : Kd.C k60 w0 A xs.length xs)
    (hF : ∀ (k : Nat) (hk : k < xs.length) (W : World), St k W →  Calls Tryz.prog 83 #[.agg #[.string xs[k].f0, .string xs[k].f1, .int .i64 xs[k].f2, .bool xs[k].f3], .pointer (some ⟨p0, 0, none⟩)] (W.alloc (.cells #[.string xs[k].f0, .string xs[k].f1, .int .i64 xs[k].f2, .bool xs[k].f3] 60)) fun e w' => e = .returned (.tuple #[]) ∧ St (k + 1) w') :
    Calls Tryz.prog 82 #[.pointer (some ⟨gw, 0, none⟩), .slice A xs.length c, .func (.func 83) #[] #[.pointer (some ⟨p0, 0, none⟩)]] w fun e w' => e = .returned (.tuple #[]) ∧ St xs.length w' := by
  have HN := Lib.hid hN
  have HC := Lib.hid hC
  have HBW := Lib.hid hB
  have HF := Lib.hid hF
  clear hN hC hF hB
  go_enter Tryz.func82, Tryz.ntmps82
  go_wp2_with (go_at_call 69; refine HN.out.mono ?_; rintro e w1 ⟨rfl, hS⟩; have HS := Lib.hid hS; clear hS)
  go_loopw [15] (fun t15 wr => ∃ k : Nat, k ≤ xs.length ∧ t15 = .int .i64 k ∧ Hid (St k wr)) (fun t15 _ => xs.length - (intOf t15).toNat)
  case atStart => exact ⟨0, by omega, rfl, HS⟩
  case round =>
    obtain ⟨k, hk, rfl, hS⟩ := hrel
    by_cases hlt : k < xs.length
    · have i1 : (0 : Int) ≤ (k : Int) := by omega
      have i2 : (k : Int) < xs.length := by omega
      obtain ⟨ad, rfl, c10, c11, c12, c13⟩ := atk60N HC.out k hlt hlt
      have hbk := HBW.out k wr hS.out
      have c10 := pw_cell_below hbk c10
      have c11 := pw_cell_below hbk c11
      have c12 := pw_cell_below hbk c12
      have c13 := pw_cell_below hbk c13
      clear hbk
      have HFK := Lib.hid (HF.out k hlt wr hS.out)
      generalize xs[k] = x at *
      go_wp2_with (go_at_call 83; refine HFK.out.mono ?_; rintro e w1 ⟨rfl, hS1⟩; have HS1 := Lib.hid hS1; clear hS1)
      go_roundw
      case rel => exact ⟨k + 1, by omega, by go_num, HS1⟩
      case measure => simp [intOf]; omega
    · obtain rfl : k = xs.length := by omega
      go_wp2_with fail
      go_end0
      exact ⟨rfl, hS.out⟩
theorem atk65N {w : World} {A : Option Addr} {n : Nat} {xs : List S65} (h : Kd.C k65 w A n xs) (k : Nat) (hk : k < n) (hk' : k < xs.length) : ∃ ad A1 c1, A = some ad ∧ w.cell? (ad.add (k * 5)) = some (.int .i64 xs[k].f0) ∧ w.cell? ⟨(ad.add (k * 5)).block, (ad.add (k * 5)).off + 1, none⟩ = some (.string xs[k].f1.f0) ∧ w.cell? ⟨(ad.add (k * 5)).block, (ad.add (k * 5)).off + 2, none⟩ = some (.int .i64 xs[k].f1.f1) ∧ w.cell? ⟨(ad.add (k * 5)).block, (ad.add (k * 5)).off + 3, none⟩ = some (.slice A1 xs[k].f1.f2.length c1) ∧ w.cell? ⟨(ad.add (k * 5)).block, (ad.add (k * 5)).off + 4, none⟩ = some (.bool xs[k].f2) ∧ xs[k].f1.f2.length ≤ c1 ∧ k67.C w A1 xs[k].f1.f2.length xs[k].f1.f2 := by
  have h1 := at_T65 h (k : Int) (by omega) (by omega)
  have h2 : rd_T65 xs (k : Int) = xs[k] := by simp [rd_T65, List.getD_eq_getElem?_getD, List.getElem?_eq_getElem hk']
  simp only [Int.toNat_natCast] at h1
  rw [h2] at h1
  exact h1
set_option maxHeartbeats 1000000 in
theorem putSeens_any (St : Nat → World → Prop) (gw : Nat) (p0 p1 : Nat) (A : Option Addr) (c : Nat) (xs : List S65) (w : World) (hc : xs.length ≤ c) (hcm : xs.length ≤ 9223372036854775807)
    (hN : Calls Tryz.prog 69 #[.pointer (some ⟨gw, 0, none⟩), .slice (some ⟨w.heap.size, 0, none⟩) 1 1] (w.alloc (.cells #[.int .i64 (xs.length : Int)] 2)) fun e w' => e = .returned (.tuple #[]) ∧ St 0 w')
    (w0 : World) (hB : ∀ k W, St k W → Below w0.heap.size w0 W) (hC : Kd.C k65 w0 A xs.length xs)
    (hF : ∀ (k : Nat) (hk : k < xs.length) (W : World), St k W → ∀ (A1 : Option Addr) (c1 : Nat), xs[k].f1.f2.length ≤ c1 → k67.C w0 A1 xs[k].f1.f2.length xs[k].f1.f2 → Calls Tryz.prog 89 #[.agg #[.int .i64 xs[k].f0, .string xs[k].f1.f0, .int .i64 xs[k].f1.f1, .slice A1 xs[k].f1.f2.length c1, .bool xs[k].f2], .pointer (some ⟨p0, 0, none⟩), .pointer (some ⟨p1, 0, none⟩)] (W.alloc (.cells #[.int .i64 xs[k].f0, .string xs[k].f1.f0, .int .i64 xs[k].f1.f1, .slice A1 xs[k].f1.f2.length c1, .bool xs[k].f2] 65)) fun e w' => e = .returned (.tuple #[]) ∧ St (k + 1) w') :
    Calls Tryz.prog 88 #[.pointer (some ⟨gw, 0, none⟩), .slice A xs.length c, .func (.func 89) #[] #[.pointer (some ⟨p0, 0, none⟩), .pointer (some ⟨p1, 0, none⟩)]] w fun e w' => e = .returned (.tuple #[]) ∧ St xs.length w' := by
  have HN := Lib.hid hN
  have HC := Lib.hid hC
  have HBW := Lib.hid hB
  have HF := Lib.hid hF
  clear hN hC hF hB
  go_enter Tryz.func88, Tryz.ntmps88
  go_wp2_with (go_at_call 69; refine HN.out.mono ?_; rintro e w1 ⟨rfl, hS⟩; have HS := Lib.hid hS; clear hS)
  go_loopw [15] (fun t15 wr => ∃ k : Nat, k ≤ xs.length ∧ t15 = .int .i64 k ∧ Hid (St k wr)) (fun t15 _ => xs.length - (intOf t15).toNat)
  case atStart => exact ⟨0, by omega, rfl, HS⟩
  case round =>
    obtain ⟨k, hk, rfl, hS⟩ := hrel
    by_cases hlt : k < xs.length
    · have i1 : (0 : Int) ≤ (k : Int) := by omega
      have i2 : (k : Int) < xs.length := by omega
      obtain ⟨ad, A1, c1, rfl, c10, c11, c12, c13, c14, hl1, hr1⟩ := atk65N HC.out k hlt hlt
      have hbk := HBW.out k wr hS.out
      have c10 := pw_cell_below hbk c10
      have c11 := pw_cell_below hbk c11
      have c12 := pw_cell_below hbk c12
      have c13 := pw_cell_below hbk c13
      have c14 := pw_cell_below hbk c14
      clear hbk
      have HFK := Lib.hid (HF.out k hlt wr hS.out _ _ hl1 hr1)
      generalize xs[k] = x at *
      go_wp2_with (go_at_call 89; refine HFK.out.mono ?_; rintro e w1 ⟨rfl, hS1⟩; have HS1 := Lib.hid hS1; clear hS1)
      go_roundw
      case rel => exact ⟨k + 1, by omega, by go_num, HS1⟩
      case measure => simp [intOf]; omega
    · obtain rfl : k = xs.length := by omega
      go_wp2_with fail
      go_end0
      exact ⟨rfl, hS.out⟩
def encAttrs (xs : List S58) : List Int := puti xs.length ++ xs.flatMap encAttr
def encType (x : S56) : List Int := txt x.f0 ++ encAttrs x.f1
def encTypes (xs : List S56) : List Int := puti xs.length ++ xs.flatMap encType
def encSaved (x : S60) : List Int := txt x.f0 ++ (txt x.f1 ++ (puti x.f2 ++ [if x.f3 then 1 else 0]))
def encSaveds (xs : List S60) : List Int := puti xs.length ++ xs.flatMap encSaved
theorem txt_ge (s : ByteArray) : s.size + 1 ≤ (txt s).length := by
  have := puti_pos (s.size : Int)
  rw [txt, List.length_append, bytesOf_length]
  omega
theorem text_hl {gw base : Nat} {l : List Int} {bad : Bool} {s : ByteArray} {w : World} (hW : WAt w gw base l bad) (hl : (l ++ txt s).length ≤ 10000000000000) :
    Calls Tryz.prog 73 #[.pointer (some ⟨gw, 0, none⟩), .string s] w fun e w' => Wrote gw base (l ++ txt s) bad w e w' := by
  have := txt_ge s
  rw [List.length_append] at hl
  exact text_any gw base l bad s w hW (by omega) (by omega)
theorem num_hl {gw base : Nat} {l : List Int} {bad : Bool} {n : Int} {w : World} (hW : WAt w gw base l bad) (hn : I64 n) (hl : (l ++ puti n).length ≤ 10000000000000) :
    Calls Tryz.prog 69 #[.pointer (some ⟨gw, 0, none⟩), .slice (some ⟨w.heap.size, 0, none⟩) 1 1] (w.alloc (.cells #[.int .i64 n] 2)) fun e w' => Wrote gw base (l ++ puti n) bad w e w' := by
  have hb0 := below_new w (.cells #[.int .i64 n] 2)
  have h := numbers_any gw base w.heap.size 1 l [n] bad (w.alloc (.cells #[.int .i64 n] 2)) (hW.below hb0) (blk_new w _) (by intro m hm; rw [List.mem_singleton] at hm; rw [hm]; exact hn) (by simp) (by simp) (by rw [List.length_append] at hl; simp only [List.length_singleton]; omega)
  rw [show putis [n] = puti n by simp [putis]] at h
  exact h.mono (fun e w' ⟨h1, h2, h3⟩ => ⟨h1, h2, (Wr.of_below hb0).trans h3⟩)
def LSt (w : World) (gw base pb : Nat) (l : List Int) (bad : Bool) (W : World) : Prop := WAt W gw base l bad ∧ Wr base gw w W ∧ PBox W pb gw
theorem take_flat {α : Type} (f : α → List Int) (l : List Int) (xs : List α) (k : Nat) (hk : k < xs.length) : l ++ (xs.take (k + 1)).flatMap f = (l ++ (xs.take k).flatMap f) ++ f xs[k] := by
  rw [List.take_add_one, List.getElem?_eq_getElem hk, List.flatMap_append, List.append_assoc]
  simp
theorem take_le {α : Type} (f : α → List Int) (l : List Int) (xs : List α) (k : Nat) : (l ++ (xs.take k).flatMap f).length ≤ (l ++ xs.flatMap f).length := by
  conv => rhs; rw [← List.take_append_drop k xs, List.flatMap_append]
  simp only [List.length_append]
  omega
theorem LSt.below {w w0 W : World} {gw pb : Nat} {l : List Int} {bad : Bool} (h : LSt w gw w0.heap.size pb l bad W) (hB : Below w0.heap.size w0 w) : Below w0.heap.size w0 W :=
  hB.trans (h.2.1.below hB.size)
theorem LSt.step {w W W' : World} {gw base pb : Nat} {l l' : List Int} {bad : Bool} {o : Obj} (h : LSt w gw base pb l bad W) (k : WAt W' gw base l' bad) (hr : Wr base gw (W.alloc o) W') : LSt w gw base pb l' bad W' := by
  have hb := below_new W o
  exact ⟨k, h.2.1.trans ((Wr.of_below hb).trans hr), (h.2.2.below hb).wr (h.1.below hb) hr⟩
theorem flat_ge {α : Type} (f : α → List Int) (h : ∀ x, 1 ≤ (f x).length) (xs : List α) : xs.length ≤ (xs.flatMap f).length := by
  induction xs with
  | nil => simp
  | cons x xs ih =>
    have := h x
    simp only [List.flatMap_cons, List.length_append, List.length_cons]
    omega
theorem attrs_any {w0 w : World} {gw pb c : Nat} {l : List Int} {bad : Bool} {A : Option Addr} {xs : List S58} (hB : Below w0.heap.size w0 w) (hW : WAt w gw w0.heap.size l bad) (hP : PBox w pb gw)
    (hC : Kd.C k58 w0 A xs.length xs) (hc : xs.length ≤ c) (hl : (l ++ encAttrs xs).length ≤ 10000000000000) :
    Calls Tryz.prog 74 #[.pointer (some ⟨gw, 0, none⟩), .slice A xs.length c, .func (.func 75) #[] #[.pointer (some ⟨pb, 0, none⟩)]] w fun e w' => Wrote gw w0.heap.size (l ++ encAttrs xs) bad w e w' := by
  have hcm : xs.length ≤ 9223372036854775807 := by
    have := flat_ge encAttr (fun x => by have := txt_ge x.f0; simp [encAttr]) xs
    rw [encAttrs, List.length_append, List.length_append] at hl
    omega
  have hl' : ∀ k, ((l ++ puti xs.length) ++ (xs.take k).flatMap encAttr).length ≤ 10000000000000 := fun k => by
    have := take_le encAttr (l ++ puti xs.length) xs k
    rw [encAttrs, ← List.append_assoc] at hl
    omega
  refine (putAttrs_any (fun k W => LSt w gw w0.heap.size pb ((l ++ puti xs.length) ++ (xs.take k).flatMap encAttr) bad W) gw pb A c xs w hc hcm ?_ w0 (fun k W h => h.below hB) hC ?_).mono ?_
  · refine (num_hl hW ⟨by omega, by omega⟩ (by have := hl' 0; simpa using this)).mono ?_
    rintro e w' ⟨rfl, h1, h2⟩
    exact ⟨rfl, by simpa using h1, h2, hP.wr hW h2⟩
  · intro k hk W hS
    have hs := hl' (k + 1)
    rw [take_flat encAttr (l ++ puti xs.length) xs k hk] at hs ⊢
    have hx := hs
    rw [List.length_append] at hx
    have hx2 : (encAttr xs[k]).length = (txt (xs[k]).f0).length + 1 := by simp [encAttr]
    have hg := txt_ge (xs[k]).f0
    have hb := below_new W (.cells #[.string (xs[k]).f0, .int .i64 (xs[k]).f1] 58)
    refine (wAttr_any gw w0.heap.size pb _ bad xs[k] _ (hS.1.below hb) (hS.2.2.below hb) (by omega) (by omega)).mono ?_
    rintro e w' ⟨rfl, h1, h2⟩
    exact ⟨rfl, hS.step h1 h2⟩
  · rintro e w' ⟨rfl, h1, h2, h3⟩
    rw [List.take_length] at h1
    exact ⟨rfl, by rw [encAttrs, ← List.append_assoc]; exact h1, h2⟩
theorem chainB {w0 w W w1 : World} {gw : Nat} (h : Below w0.heap.size w0 w) (h0 : Below w.heap.size w W) (hR : Wr w0.heap.size gw W w1) : Below w0.heap.size w0 w1 :=
  (below_then h h.size h0).trans (hR.below (Nat.le_trans h.size h0.size))
set_option maxHeartbeats 1000000 in
theorem wType_any {w0 w : World} {gw pb c1 : Nat} {l : List Int} {bad : Bool} {A1 : Option Addr} {x : S56} (hB : Below w0.heap.size w0 w) (hW : WAt w gw w0.heap.size l bad) (hP : PBox w pb gw)
    (hC : Kd.C k58 w0 A1 x.f1.length x.f1) (hc : x.f1.length ≤ c1) (hl : (l ++ encType x).length ≤ 10000000000000) :
    Calls Tryz.prog 72 #[.agg #[.string x.f0, .slice A1 x.f1.length c1], .pointer (some ⟨pb, 0, none⟩)] w fun e w' => Wrote gw w0.heap.size (l ++ encType x) bad w e w' := by
  have hb0 := below_new w (.cells #[.string x.f0, .slice A1 x.f1.length c1] 56)
  have hX := blk_new w (.cells #[.string x.f0, .slice A1 x.f1.length c1] 56)
  have hP0 := hP.below hb0
  have hW0 := hW.below hb0
  have hE : l ++ encType x = (l ++ txt x.f0) ++ encAttrs x.f1 := by rw [encType, List.append_assoc]
  rw [hE] at hl ⊢
  have HT := Lib.hid (text_hl (s := x.f0) hW0 (by rw [List.length_append] at hl; omega))
  have hxg := hW0.neq hX (by decide)
  have HXG := Lib.hid hxg
  have HB0 := Lib.hid hb0
  have HX := Lib.hid hX
  have HP := Lib.hid hP0
  have HW := Lib.hid hW0
  have HL := Lib.hid hl
  have HB := Lib.hid hB
  have HC := Lib.hid hC
  have hp0 : (w.alloc (.cells #[.string x.f0, .slice A1 x.f1.length c1] 56)).cell? ⟨pb, 0, none⟩ = some (.pointer (some ⟨gw, 0, none⟩)) := (blk_cell hP0 0).trans rfl
  have hmf : ∀ fn first cap w, (Instr.makeFunc fn first cap).run Tryz.prog w = .ok (.func fn first cap) w := fun _ _ _ _ => rfl
  clear hW hP hb0 hX hP0 hW0 hxg hl hE hB hC
  generalize l ++ txt x.f0 = l1 at *
  go_enter Tryz.func72, Tryz.ntmps72
  go_wp2_with (first
    | (go_at_call 73; refine HT.out.mono ?_; rintro e w1 ⟨rfl, hA, hR⟩; have hP1 := HP.out.wr HW.out hR; have HP1 := Lib.hid hP1; have hX1 := Wr.blk hR HX.out HXG.out (by decide); have HA := Lib.hid hA; have HR := Lib.hid hR; have hp1 : w1.cell? ⟨pb, 0, none⟩ = some (.pointer (some ⟨gw, 0, none⟩)) := (blk_cell hP1 0).trans rfl; have hx1 : w1.cell? ⟨w.heap.size, 1, none⟩ = some (.slice A1 x.f1.length c1) := (blk_cell hX1 1).trans rfl; clear hA hR hP1 hX1 hp0)
    | (go_at_call 74; refine (attrs_any (chainB HB.out HB0.out HR.out) HA.out HP1.out HC.out hc HL.out).mono ?_; rintro e w2 ⟨rfl, hA2, hR2⟩))
  go_end0
  exact ⟨rfl, hA2, (Wr.of_below HB0.out).trans (HR.out.trans hR2)⟩
theorem encType_ge (x : S56) : 1 ≤ (encType x).length := by
  have := txt_ge x.f0
  rw [encType, List.length_append]
  omega
theorem encSaved_ge (x : S60) : 1 ≤ (encSaved x).length := by
  have := txt_ge x.f0
  rw [encSaved, List.length_append]
  omega
theorem types_any {w0 w : World} {gw pb c : Nat} {l : List Int} {bad : Bool} {A : Option Addr} {xs : List S56} (hB : Below w0.heap.size w0 w) (hW : WAt w gw w0.heap.size l bad) (hP : PBox w pb gw)
    (hC : Kd.C k56 w0 A xs.length xs) (hc : xs.length ≤ c) (hl : (l ++ encTypes xs).length ≤ 10000000000000) :
    Calls Tryz.prog 71 #[.pointer (some ⟨gw, 0, none⟩), .slice A xs.length c, .func (.func 72) #[] #[.pointer (some ⟨pb, 0, none⟩)]] w fun e w' => Wrote gw w0.heap.size (l ++ encTypes xs) bad w e w' := by
  have hcm : xs.length ≤ 9223372036854775807 := by
    have := flat_ge encType encType_ge xs
    rw [encTypes, List.length_append, List.length_append] at hl
    omega
  have hl' : ∀ k, ((l ++ puti xs.length) ++ (xs.take k).flatMap encType).length ≤ 10000000000000 := fun k => by
    have := take_le encType (l ++ puti xs.length) xs k
    rw [encTypes, ← List.append_assoc] at hl
    omega
  refine (putTypes_any (fun k W => LSt w gw w0.heap.size pb ((l ++ puti xs.length) ++ (xs.take k).flatMap encType) bad W) gw pb A c xs w hc hcm ?_ w0 (fun k W h => h.below hB) hC ?_).mono ?_
  · refine (num_hl hW ⟨by omega, by omega⟩ (by have := hl' 0; simpa using this)).mono ?_
    rintro e w' ⟨rfl, h1, h2⟩
    exact ⟨rfl, by simpa using h1, h2, hP.wr hW h2⟩
  · intro k hk W hS A1 c1 hc1 hC1
    have hs := hl' (k + 1)
    rw [take_flat encType (l ++ puti xs.length) xs k hk] at hs ⊢
    have hb := below_new W (.cells #[.string (xs[k]).f0, .slice A1 (xs[k]).f1.length c1] 56)
    refine (wType_any (below_then (hS.below hB) (hS.below hB).size hb) (hS.1.below hb) (hS.2.2.below hb) hC1 hc1 hs).mono ?_
    rintro e w' ⟨rfl, h1, h2⟩
    exact ⟨rfl, hS.step h1 h2⟩
  · rintro e w' ⟨rfl, h1, h2, h3⟩
    rw [List.take_length] at h1
    exact ⟨rfl, by rw [encTypes, ← List.append_assoc]; exact h1, h2⟩
set_option maxHeartbeats 1000000 in
theorem wSaved_any {w : World} {gw base pb : Nat} {l : List Int} {bad : Bool} {x : S60} (hW : WAt w gw base l bad) (hP : PBox w pb gw) (hi : I64 x.f2) (hl : (l ++ encSaved x).length ≤ 10000000000000) :
    Calls Tryz.prog 83 #[.agg #[.string x.f0, .string x.f1, .int .i64 x.f2, .bool x.f3], .pointer (some ⟨pb, 0, none⟩)] w fun e w' => Wrote gw base (l ++ encSaved x) bad w e w' := by
  have hb0 := below_new w (.cells #[.string x.f0, .string x.f1, .int .i64 x.f2, .bool x.f3] 60)
  have hX := blk_new w (.cells #[.string x.f0, .string x.f1, .int .i64 x.f2, .bool x.f3] 60)
  have hP0 := hP.below hb0
  have hW0 := hW.below hb0
  have hE : l ++ encSaved x = (((l ++ txt x.f0) ++ txt x.f1) ++ puti x.f2) ++ [if x.f3 then 1 else 0] := by rw [encSaved]; simp only [List.append_assoc]
  rw [hE] at hl ⊢
  have hl3 : (((l ++ txt x.f0) ++ txt x.f1) ++ puti x.f2).length ≤ 10000000000000 := by rw [List.length_append] at hl; omega
  have hl2 : ((l ++ txt x.f0) ++ txt x.f1).length ≤ 10000000000000 := by rw [List.length_append] at hl3; omega
  have hl1 : (l ++ txt x.f0).length ≤ 10000000000000 := by rw [List.length_append] at hl2; omega
  have HT := Lib.hid (text_hl (s := x.f0) hW0 hl1)
  have hxg := hW0.neq hX (by decide)
  have HXG := Lib.hid hxg
  have HB0 := Lib.hid hb0
  have HX := Lib.hid hX
  have HP := Lib.hid hP0
  have HW := Lib.hid hW0
  have HL2 := Lib.hid hl2
  have HL3 := Lib.hid hl3
  have hp0 : (w.alloc (.cells #[.string x.f0, .string x.f1, .int .i64 x.f2, .bool x.f3] 60)).cell? ⟨pb, 0, none⟩ = some (.pointer (some ⟨gw, 0, none⟩)) := (blk_cell hP0 0).trans rfl
  clear hW hP hb0 hX hP0 hW0 hxg hl hE hl1 hl2 hl3
  generalize hZ : (((l ++ txt x.f0) ++ txt x.f1) ++ puti x.f2) ++ [if x.f3 then 1 else 0] = Z
  have HZ := Lib.hid hZ
  clear hZ
  generalize l ++ txt x.f0 = l1 at *
  go_enter Tryz.func83, Tryz.ntmps83
  go_wp2_with (first
    | (go_at_call 73; refine HT.out.mono ?_; rintro e w1 ⟨rfl, hA, hR⟩; have hP1 := HP.out.wr HW.out hR; have HP1 := Lib.hid hP1; have hX1 := Wr.blk hR HX.out HXG.out (by decide); have HX1 := Lib.hid hX1; have HA := Lib.hid hA; have HR := Lib.hid hR; have hp1 : w1.cell? ⟨pb, 0, none⟩ = some (.pointer (some ⟨gw, 0, none⟩)) := (blk_cell hP1 0).trans rfl; have hx1 : w1.cell? ⟨w.heap.size, 1, none⟩ = some (.string x.f1) := (blk_cell hX1 1).trans rfl; clear HT hA hR hP1 hX1 hp0)
    | (go_at_call 73; refine (text_hl HA.out HL2.out).mono ?_; rintro e w2 ⟨rfl, hA2, hR2⟩; have hP2 := HP1.out.wr HA.out hR2; have HP2 := Lib.hid hP2; have hX2 := Wr.blk hR2 HX1.out HXG.out (by decide); have HX2 := Lib.hid hX2; have HA2 := Lib.hid hA2; have HR2 := Lib.hid hR2; have hp2 : w2.cell? ⟨pb, 0, none⟩ = some (.pointer (some ⟨gw, 0, none⟩)) := (blk_cell hP2 0).trans rfl; have hx2 : w2.cell? ⟨w.heap.size, 2, none⟩ = some (.int .i64 x.f2) := (blk_cell hX2 2).trans rfl; clear hA2 hR2 hP2 hX2)
    | (go_at_call 69; refine (num_hl HA2.out hi HL3.out).mono ?_; rintro e w3 ⟨rfl, hA3, hR3⟩; have hP3 := HP2.out.wr HA2.out hR3; have hX3 := Wr.blk hR3 HX2.out HXG.out (by decide); have HA3 := Lib.hid hA3; have HR3 := Lib.hid hR3; have hp3 : w3.cell? ⟨pb, 0, none⟩ = some (.pointer (some ⟨gw, 0, none⟩)) := (blk_cell hP3 0).trans rfl; have hx3 : w3.cell? ⟨w.heap.size, 3, none⟩ = some (.bool x.f3) := (blk_cell hX3 3).trans rfl; clear hA3 hR3 hP3 hX3)
    | (go_at_call 84; refine (truth_any gw base _ bad x.f3 _ HA3.out (by have := HL3.out; omega)).mono ?_; rintro e w4 ⟨rfl, hA4, hR4⟩))
  go_end0
  exact ⟨rfl, by rw [← HZ.out]; exact hA4, (Wr.of_below HB0.out).trans (HR.out.trans (HR2.out.trans (HR3.out.trans hR4)))⟩
theorem saveds_any {w0 w : World} {gw pb c : Nat} {l : List Int} {bad : Bool} {A : Option Addr} {xs : List S60} (hB : Below w0.heap.size w0 w) (hW : WAt w gw w0.heap.size l bad) (hP : PBox w pb gw)
    (hC : Kd.C k60 w0 A xs.length xs) (hc : xs.length ≤ c) (hi : ∀ x ∈ xs, I64 x.f2) (hl : (l ++ encSaveds xs).length ≤ 10000000000000) :
    Calls Tryz.prog 82 #[.pointer (some ⟨gw, 0, none⟩), .slice A xs.length c, .func (.func 83) #[] #[.pointer (some ⟨pb, 0, none⟩)]] w fun e w' => Wrote gw w0.heap.size (l ++ encSaveds xs) bad w e w' := by
  have hcm : xs.length ≤ 9223372036854775807 := by
    have := flat_ge encSaved encSaved_ge xs
    rw [encSaveds, List.length_append, List.length_append] at hl
    omega
  have hl' : ∀ k, ((l ++ puti xs.length) ++ (xs.take k).flatMap encSaved).length ≤ 10000000000000 := fun k => by
    have := take_le encSaved (l ++ puti xs.length) xs k
    rw [encSaveds, ← List.append_assoc] at hl
    omega
  refine (putSaved_any (fun k W => LSt w gw w0.heap.size pb ((l ++ puti xs.length) ++ (xs.take k).flatMap encSaved) bad W) gw pb A c xs w hc hcm ?_ w0 (fun k W h => h.below hB) hC ?_).mono ?_
  · refine (num_hl hW ⟨by omega, by omega⟩ (by have := hl' 0; simpa using this)).mono ?_
    rintro e w' ⟨rfl, h1, h2⟩
    exact ⟨rfl, by simpa using h1, h2, hP.wr hW h2⟩
  · intro k hk W hS
    have hs := hl' (k + 1)
    rw [take_flat encSaved (l ++ puti xs.length) xs k hk] at hs ⊢
    have hb := below_new W (.cells #[.string (xs[k]).f0, .string (xs[k]).f1, .int .i64 (xs[k]).f2, .bool (xs[k]).f3] 60)
    refine (wSaved_any (hS.1.below hb) (hS.2.2.below hb) (hi _ (List.getElem_mem hk)) hs).mono ?_
    rintro e w' ⟨rfl, h1, h2⟩
    exact ⟨rfl, hS.step h1 h2⟩
  · rintro e w' ⟨rfl, h1, h2, h3⟩
    rw [List.take_length] at h1
    exact ⟨rfl, by rw [encSaveds, ← List.append_assoc]; exact h1, h2⟩
structure Img where
  runs : Int
  made : Int
  seq : Int
  now : Int
  types : List S56
  saved : List S60
  seens : List S65
def ImgAt (w0 w : World) (gi : Nat) (m : Img) : Prop := ∃ A4 c4 A5 c5 A6 c6,
  w.heap[gi]? = some (.cells #[.int .i64 m.runs, .int .i64 m.made, .int .i64 m.seq, .int .i64 m.now, .slice A4 m.types.length c4, .slice A5 m.saved.length c5, .slice A6 m.seens.length c6] 31 (0, 0)) ∧
    (Kd.C k56 w0 A4 m.types.length m.types ∧ m.types.length ≤ c4) ∧ (Kd.C k60 w0 A5 m.saved.length m.saved ∧ m.saved.length ≤ c5) ∧ (Kd.C k65 w0 A6 m.seens.length m.seens ∧ m.seens.length ≤ c6)
theorem ImgAt.below {w0 w w' : World} {gi : Nat} {m : Img} (h : ImgAt w0 w gi m) (hB : Below w.heap.size w w') : ImgAt w0 w' gi m := by
  obtain ⟨A4, c4, A5, c5, A6, c6, h1, h2⟩ := h
  exact ⟨A4, c4, A5, c5, A6, c6, blk_below h1 hB, h2⟩
theorem ImgAt.wr {w0 w w' : World} {gi gw base : Nat} {m : Img} {l : List Int} {bad : Bool} (h : ImgAt w0 w gi m) (hW : WAt w gw base l bad) (hR : Wr base gw w w') : ImgAt w0 w' gi m := by
  obtain ⟨A4, c4, A5, c5, A6, c6, h1, h2⟩ := h
  exact ⟨A4, c4, A5, c5, A6, c6, Wr.blk hR h1 (hW.neq h1 (by decide)) (by decide), h2⟩
def magicL : List Int := [114, 102, 114, 110]
set_option maxHeartbeats 1000000 in
theorem writeMagic_any {w : World} {gw base : Nat} {l : List Int} {bad : Bool} (p : Value) (hW : WAt w gw base l bad) (hl : (l ++ magicL).length ≤ 10000000000000) :
    Calls Tryz.prog 43 #[.pointer (some ⟨gw, 0, none⟩), p] w fun e w' => Wrote gw base (l ++ magicL) bad w e w' := by
  obtain ⟨hgw, A, c, hb, hO⟩ := hW
  have HB := Lib.hid hb
  have HO := Lib.hid hO
  have hq : w.cell? ⟨gw, 0, none⟩ = some (.slice A l.length c) := (blk_cell hb 0).trans rfl
  have HL := Lib.hid (show l.length + (⟨#[114, 102, 114, 110]⟩ : ByteArray).size ≤ 140737488355328 from by rw [List.length_append] at hl; show l.length + 4 ≤ _; omega)
  have HM := Lib.hid (show bytesOf (⟨#[114, 102, 114, 110]⟩ : ByteArray) = magicL from by decide)
  clear hb hO
  go_enter Tryz.func43, Tryz.ntmps43
  go_wp2_with (at_builtin; refine wapp_str (w0 := w) rfl _ _ rfl hgw HB.out HO.out (Below.refl _ _) ⟨#[114, 102, 114, 110]⟩ rfl rfl HL.out ?_; intro A6 n6 c6 w6 hc6 hf6 hk6 h6)
  go_end0
  have := h6.out
  rw [HM.out] at this
  exact ⟨rfl, this.1, this.2⟩
def encNums (m : Img) : List Int := puti m.runs ++ (puti m.made ++ (puti m.seq ++ puti m.now))
set_option maxHeartbeats 1000000 in
theorem writeNumbers_any {w0 w : World} {gw gi base : Nat} {l : List Int} {bad : Bool} {m : Img} (hW : WAt w gw base l bad) (hI : ImgAt w0 w gi m) (h1 : I64 m.runs) (h2 : I64 m.made) (h3 : I64 m.seq) (h4 : I64 m.now) (hl : l.length ≤ 10000000000000) :
    Calls Tryz.prog 45 #[.pointer (some ⟨gw, 0, none⟩), .pointer (some ⟨gi, 0, none⟩)] w fun e w' => Wrote gw base (l ++ encNums m) bad w e w' := by
  obtain ⟨A4, c4, A5, c5, A6, c6, hb, _⟩ := hI
  have c0 : w.cell? ⟨gi, 0, none⟩ = some (.int .i64 m.runs) := (blk_cell hb 0).trans rfl
  have c1 : w.cell? ⟨gi, 1, none⟩ = some (.int .i64 m.made) := (blk_cell hb 1).trans rfl
  have c2 : w.cell? ⟨gi, 2, none⟩ = some (.int .i64 m.seq) := (blk_cell hb 2).trans rfl
  have c3 : w.cell? ⟨gi, 3, none⟩ = some (.int .i64 m.now) := (blk_cell hb 3).trans rfl
  have hb0 := below_new w (.cells #[.int .i64 m.runs, .int .i64 m.made, .int .i64 m.seq, .int .i64 m.now] 2)
  have HN := Lib.hid (show ∀ W : World, Below w.heap.size w W → W.heap.size = w.heap.size → Calls Tryz.prog 69 #[.pointer (some ⟨gw, 0, none⟩), .slice (some ⟨w.heap.size, 0, none⟩) 4 4] (W.alloc (.cells #[.int .i64 m.runs, .int .i64 m.made, .int .i64 m.seq, .int .i64 m.now] 2)) fun e w' => Wrote gw base (l ++ encNums m) bad w e w' from by
    intro W hBW hsz
    have hbn := below_new W (.cells #[.int .i64 m.runs, .int .i64 m.made, .int .i64 m.seq, .int .i64 m.now] 2)
    have hbb := below_step hBW hbn
    have hN := blk_new W (.cells #[.int .i64 m.runs, .int .i64 m.made, .int .i64 m.seq, .int .i64 m.now] 2)
    rw [hsz] at hN
    refine (numbers_any gw base w.heap.size 4 l [m.runs, m.made, m.seq, m.now] bad _ (hW.below hbb) hN ?_ (by simp) (by simp) (by simp only [List.length_cons, List.length_nil]; omega)).mono ?_
    · intro n hn
      simp only [List.mem_cons, List.not_mem_nil, or_false] at hn
      rcases hn with rfl | rfl | rfl | rfl <;> assumption
    · rintro e w' ⟨rfl, k1, k2⟩
      rw [show putis [m.runs, m.made, m.seq, m.now] = encNums m by simp [putis, encNums]] at k1
      exact ⟨rfl, k1, (Wr.of_below hbb).trans k2⟩)
  clear hW hb hb0
  go_enter Tryz.func45, Tryz.ntmps45
  go_wp2_with fail
  go_region_law (first | (go_simp; go_at_call 69; refine (HN.out _ (by first | exact below_drew (Below.refl _ _) | exact Below.refl _ _) (by rfl)).mono ?_; rintro e w1 ⟨rfl, hA, hR⟩))
  all_goals
    go_wp2_with fail
    go_end0
    exact ⟨rfl, hA, hR⟩
set_option maxHeartbeats 1000000 in
theorem writeTypes_any {w0 w : World} {gw gi : Nat} {l : List Int} {bad : Bool} {m : Img} (hB : Below w0.heap.size w0 w) (hW : WAt w gw w0.heap.size l bad) (hI : ImgAt w0 w gi m) (hl : (l ++ encTypes m.types).length ≤ 10000000000000) :
    Calls Tryz.prog 47 #[.pointer (some ⟨gw, 0, none⟩), .pointer (some ⟨gi, 0, none⟩)] w fun e w' => Wrote gw w0.heap.size (l ++ encTypes m.types) bad w e w' := by
  have hb0 := below_new w (.cells #[.pointer (some ⟨gw, 0, none⟩)] 71)
  have hP := blk_new w (.cells #[.pointer (some ⟨gw, 0, none⟩)] 71)
  obtain ⟨A4, c4, A5, c5, A6, c6, hb, ⟨hC, hc⟩, _⟩ := hI
  have c4' : (w.alloc (.cells #[.pointer (some ⟨gw, 0, none⟩)] 71)).cell? ⟨gi, 4, none⟩ = some (.slice A4 m.types.length c4) := (blk_cell (blk_below hb hb0) 4).trans rfl
  have p0 : (w.alloc (.cells #[.pointer (some ⟨gw, 0, none⟩)] 71)).cell? ⟨w.heap.size, 0, none⟩ = some (.pointer (some ⟨gw, 0, none⟩)) := (blk_cell hP 0).trans rfl
  have hmf : ∀ fn first cap w, (Instr.makeFunc fn first cap).run Tryz.prog w = .ok (.func fn first cap) w := fun _ _ _ _ => rfl
  have HN := Lib.hid (show ∀ W : World, Below (w.alloc (.cells #[.pointer (some ⟨gw, 0, none⟩)] 71)).heap.size (w.alloc (.cells #[.pointer (some ⟨gw, 0, none⟩)] 71)) W → Calls Tryz.prog 71 #[.pointer (some ⟨gw, 0, none⟩), .slice A4 m.types.length c4, .func (.func 72) #[] #[.pointer (some ⟨w.heap.size, 0, none⟩)]] W fun e w' => Wrote gw w0.heap.size (l ++ encTypes m.types) bad w e w' from by
    intro W hBW
    have hbb := below_step hb0 hBW
    refine (types_any (below_then hB hB.size hbb) (hW.below hbb) (blk_below hP hBW) hC hc hl).mono ?_
    rintro e w' ⟨rfl, k1, k2⟩
    exact ⟨rfl, k1, (Wr.of_below hbb).trans k2⟩)
  clear hW hb hb0 hP hC hB
  go_enter Tryz.func47, Tryz.ntmps47
  go_wp2_with fail
  go_region_law (first | (go_simp; go_at_call 71; refine (HN.out _ (by first | exact below_drew (Below.refl _ _) | exact Below.refl _ _)).mono ?_; rintro e w1 ⟨rfl, hA, hR⟩))
  all_goals
    go_wp2_with fail
    go_end0
    exact ⟨rfl, hA, hR⟩
set_option maxHeartbeats 1000000 in
theorem writeQueries_any {w0 w : World} {gw gi : Nat} {l : List Int} {bad : Bool} {m : Img} (hB : Below w0.heap.size w0 w) (hW : WAt w gw w0.heap.size l bad) (hI : ImgAt w0 w gi m) (hi : ∀ x ∈ m.saved, I64 x.f2) (hl : (l ++ encSaveds m.saved).length ≤ 10000000000000) :
    Calls Tryz.prog 49 #[.pointer (some ⟨gw, 0, none⟩), .pointer (some ⟨gi, 0, none⟩)] w fun e w' => Wrote gw w0.heap.size (l ++ encSaveds m.saved) bad w e w' := by
  have hb0 := below_new w (.cells #[.pointer (some ⟨gw, 0, none⟩)] 71)
  have hP := blk_new w (.cells #[.pointer (some ⟨gw, 0, none⟩)] 71)
  obtain ⟨A4, c4, A5, c5, A6, c6, hb, _, ⟨hC, hc⟩, _⟩ := hI
  have c5' : (w.alloc (.cells #[.pointer (some ⟨gw, 0, none⟩)] 71)).cell? ⟨gi, 5, none⟩ = some (.slice A5 m.saved.length c5) := (blk_cell (blk_below hb hb0) 5).trans rfl
  have p0 : (w.alloc (.cells #[.pointer (some ⟨gw, 0, none⟩)] 71)).cell? ⟨w.heap.size, 0, none⟩ = some (.pointer (some ⟨gw, 0, none⟩)) := (blk_cell hP 0).trans rfl
  have hmf : ∀ fn first cap w, (Instr.makeFunc fn first cap).run Tryz.prog w = .ok (.func fn first cap) w := fun _ _ _ _ => rfl
  have HN := Lib.hid (show ∀ W : World, Below (w.alloc (.cells #[.pointer (some ⟨gw, 0, none⟩)] 71)).heap.size (w.alloc (.cells #[.pointer (some ⟨gw, 0, none⟩)] 71)) W → Calls Tryz.prog 82 #[.pointer (some ⟨gw, 0, none⟩), .slice A5 m.saved.length c5, .func (.func 83) #[] #[.pointer (some ⟨w.heap.size, 0, none⟩)]] W fun e w' => Wrote gw w0.heap.size (l ++ encSaveds m.saved) bad w e w' from by
    intro W hBW
    have hbb := below_step hb0 hBW
    refine (saveds_any (below_then hB hB.size hbb) (hW.below hbb) (blk_below hP hBW) hC hc hi hl).mono ?_
    rintro e w' ⟨rfl, k1, k2⟩
    exact ⟨rfl, k1, (Wr.of_below hbb).trans k2⟩)
  clear hW hb hb0 hP hC hB
  go_enter Tryz.func49, Tryz.ntmps49
  go_wp2_with fail
  go_region_law (first | (go_simp; go_at_call 82; refine (HN.out _ (by first | exact below_drew (Below.refl _ _) | exact Below.refl _ _)).mono ?_; rintro e w1 ⟨rfl, hA, hR⟩))
  all_goals
    go_wp2_with fail
    go_end0
    exact ⟨rfl, hA, hR⟩
end Go.Proofs.YtcfgmkmllcfjjaaGreatDoor
