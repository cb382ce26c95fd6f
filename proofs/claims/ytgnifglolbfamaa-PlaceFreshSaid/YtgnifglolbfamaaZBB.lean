/- Texts of the claim, merged in build order: QTG. -/
import Derived.Test.YtgnifglolbfamaaZAZ
import Derived.Test.YtgnifglolbfamaaZAU
import Derived.Deep.RegionHeld3
import Derived.Test.YtgnifglolbfamaaWEqStruct
import Derived.Deep.QuietTactic
import Derived.BigQuiet
/- untouched: a copy whose marks stand and which reads as the query. -/
set_option linter.unusedVariables false
set_option linter.unusedSimpArgs false
namespace Go.Proofs.Ytgnifglolbfamaa
open Go.RowKit Go.Proofs.YtgnifglolbfamaaW.PrintWords

theorem eqCp (a b : Bool) (s t : ByteArray) (W : World) : (Op.equalIn 10000 46 (.agg #[.bool a, .bool b, .string s, .string t]) (.agg #[.bool a, .bool b, .string s, .string t])).run Try.prog W = .ok true W := by
  refine eqA_of Try.underlying46 (by kernel_rfl) ?_
  simp [Op.eqFields, go_sem, Try.underlying4, Try.underlying9, Result.andThen]
theorem cutH24 (g m c : Nat) (h1 : m ≤ m + 12) (h2 : m + 12 ≤ c) (h3 : c ≤ 9223372036854775807) : ∀ W : World, (Instr.slice 24 (.slice (some ⟨g, 0, none⟩) (m + 12) c) none (some (.int .i64 (m : Int))) none).run Try.prog W = .ok (.slice (some ⟨g, 0, none⟩) m c) W := by
  intro W
  obtain ⟨i0, hi0, hzz⟩ := Option.map_eq_some_iff.1 infoEx
  have hel : Try.prog.elem 24 = 31 := by simp [Program.elem, Try.underlying24]
  have hu : Try.prog.underlying 24 = some (.slice (Try.prog.elem 24)) := by rw [hel]; exact Try.underlying24
  rw [run_slice_h W 24 (some ⟨g, 0, none⟩) (m + 12) c hu .i64 (m : Int) (by omega) (by omega), hel]
  simp [sizeOf, typeInfo, hi0, sliced, Result.andThen, add_plain]

set_option maxHeartbeats 8000000 in
set_option maxRecDepth 100000 in
theorem untouched_any (cs : List Cp) (ws : List Ex) (A5 A6 A AW : Option Addr) (n c5 m c6 R c cw n3 c3 n7 c7 m3 d3 m7 d7 : Nat) (ls : List Value) (vL : Value) (q1 p1 : ByteArray) (q2 p2 : Int) (A3 A7 B3 B7 AP AQ : Option Addr) (np cp nw cq : Nat) (q5 p5 : Int) (q6 p6 : ByteArray) (w : World) (hT : Twn w cs ws A5 n c5 A6 m c6 R ls vL) (hl : ls.length ≤ 100000000000) (hmb : m ≤ 100000000)
    (hC : kCp.C w A n cs) (hW : kEx.C w AW m ws) (hc : n ≤ c) (hcw : m ≤ cw) (hn : n ≤ 100000000000000) :
    Calls Try.prog 25 #[.agg #[.slice AP np cp, .string p1, .int .i64 p2, .slice B3 m3 d3, .slice AQ nw cq, .int .i64 p5, .string p6, .slice B7 m7 d7, .slice A5 (n + 12) c5, .slice A6 (m + 12) c6, .pointer (some ⟨R, 0, none⟩)], .agg #[.slice A n c, .string q1, .int .i64 q2, .slice A3 n3 c3, .slice AW m cw, .int .i64 q5, .string q6, .slice A7 n7 c7]] w (fun e w' => e = .returned (.bool true) ∧ Below w.heap.size w w') := by
  obtain ⟨g5, hA5, hm5⟩ := hT.cmark
  obtain ⟨g6, hA6, hm6⟩ := hT.wmark
  subst hA5 hA6
  have hb1 := below_new w (.cells #[.slice AP np cp, .string p1, .int .i64 p2, .slice B3 m3 d3, .slice AQ nw cq, .int .i64 p5, .string p6, .slice B7 m7 d7, .slice (some ⟨g5, 0, none⟩) (n + 12) c5, .slice (some ⟨g6, 0, none⟩) (m + 12) c6, .pointer (some ⟨R, 0, none⟩)] 50)
  have hb2 := below_new (w.alloc (.cells #[.slice AP np cp, .string p1, .int .i64 p2, .slice B3 m3 d3, .slice AQ nw cq, .int .i64 p5, .string p6, .slice B7 m7 d7, .slice (some ⟨g5, 0, none⟩) (n + 12) c5, .slice (some ⟨g6, 0, none⟩) (m + 12) c6, .pointer (some ⟨R, 0, none⟩)] 50)) (.cells #[.slice A n c, .string q1, .int .i64 q2, .slice A3 n3 c3, .slice AW m cw, .int .i64 q5, .string q6, .slice A7 n7 c7] 27)
  have h1 := blk_below (blk_new w (.cells #[.slice AP np cp, .string p1, .int .i64 p2, .slice B3 m3 d3, .slice AQ nw cq, .int .i64 p5, .string p6, .slice B7 m7 d7, .slice (some ⟨g5, 0, none⟩) (n + 12) c5, .slice (some ⟨g6, 0, none⟩) (m + 12) c6, .pointer (some ⟨R, 0, none⟩)] 50)) hb2
  have h2 := blk_new (w.alloc (.cells #[.slice AP np cp, .string p1, .int .i64 p2, .slice B3 m3 d3, .slice AQ nw cq, .int .i64 p5, .string p6, .slice B7 m7 d7, .slice (some ⟨g5, 0, none⟩) (n + 12) c5, .slice (some ⟨g6, 0, none⟩) (m + 12) c6, .pointer (some ⟨R, 0, none⟩)] 50)) (.cells #[.slice A n c, .string q1, .int .i64 q2, .slice A3 n3 c3, .slice AW m cw, .int .i64 q5, .string q6, .slice A7 n7 c7] 27)
  rw [alloc_size'] at h2
  have HB := Lib.hid (below_step hb1 hb2)
  have H1 := Lib.hid h1
  have H2 := Lib.hid h2
  have HT := Lib.hid hT
  have HC := Lib.hid hC
  have HW := Lib.hid hW
  have HM5 := Lib.hid hm5
  have HM6 := Lib.hid hm6
  clear h1 h2 hb1 hb2 hT hC hW hm5 hm6
  go_enter Try.func25, Try.ntmps25
  go_wp2_with fail
  generalize (w.alloc (.cells #[.slice AP np cp, .string p1, .int .i64 p2, .slice B3 m3 d3, .slice AQ nw cq, .int .i64 p5, .string p6, .slice B7 m7 d7, .slice (some ⟨g5, 0, none⟩) (n + 12) c5, .slice (some ⟨g6, 0, none⟩) (m + 12) c6, .pointer (some ⟨R, 0, none⟩)] 50)).alloc (.cells #[.slice A n c, .string q1, .int .i64 q2, .slice A3 n3 c3, .slice AW m cw, .int .i64 q5, .string q6, .slice A7 n7 c7] 27) = W1 at *
  have x8 := (blk_cell H1.out 8).trans rfl
  have x9 := (blk_cell H1.out 9).trans rfl
  have x10 := (blk_cell H1.out 10).trans rfl
  have y0 := (blk_cell H2.out 0).trans rfl
  have y4 := (blk_cell H2.out 4).trans rfl
  go_loop [5] (fun t5 => ∃ k : Nat, k ≤ 12 ∧ t5 = .int .i64 k) (fun t5 => 12 - (intOf t5).toNat)
  case atStart => exact ⟨0, by omega, rfl⟩
  case round =>
    obtain ⟨k, hk, rfl⟩ := hrel
    by_cases hlt : k < 12
    · have e5 := pw_cell_below HB.out (HM5.out k hlt)
      have e6 := pw_cell_below HB.out (HM6.out k hlt)
      have i1 : (0 : Int) ≤ (m : Int) + (k : Int) := by omega
      have i2 : (m : Int) + (k : Int) < ((m + 12 : Nat) : Int) := by omega
      have i3 : (0 : Int) ≤ (n : Int) + (k : Int) := by omega
      have i4 : (n : Int) + (k : Int) < ((n + 12 : Nat) : Int) := by omega
      go_wp2_with fail
      go_round
      case rel => exact ⟨k + 1, by omega, by go_num⟩
      case measure => simp [intOf]; omega
    · obtain rfl : k = 12 := by omega
      clear x9
      go_wp2_with fail
      go_loopw [6] (fun t6 wr => ∃ i : Nat, i ≤ n ∧ t6 = .int .i64 i ∧ Hid (Below W1.heap.size W1 wr)) (fun t6 _ => n - (intOf t6).toNat)
      case atStart => exact ⟨0, by omega, rfl, Lib.hid (Below.refl _ _)⟩
      case round =>
        obtain ⟨i, hi, rfl, hBr⟩ := hrel
        generalize wr = w2 at *
        clear x8 x10 y0 y4
        have x8 := (blk_cell (blk_below H1.out hBr.out) 8).trans rfl
        have x9 := (blk_cell (blk_below H1.out hBr.out) 9).trans rfl
        have x10 := (blk_cell (blk_below H1.out hBr.out) 10).trans rfl
        have y0 := (blk_cell (blk_below H2.out hBr.out) 0).trans rfl
        have y4 := (blk_cell (blk_below H2.out hBr.out) 4).trans rfl
        have HB2 := Lib.hid (HB.out.trans (hBr.out.mono HB.out.size))
        have HT2 := Lib.hid (HT.out.below HB2.out)
        have HC2 := Lib.hid (Kd.C_below HC.out HB2.out)
        have HW2 := Lib.hid (Kd.C_below HW.out HB2.out)
        by_cases hlt : i < n
        · have i1 : (0 : Int) ≤ (i : Int) := by omega
          have i2 : (i : Int) < (n : Int) := by omega
          have i3 : (i : Int) < ((n + 12 : Nat) : Int) := by omega
          have hic : i < cs.length := by have := HT.out.n_; omega
          obtain ⟨ad, rfl, a0, a1, a2, a3⟩ := atCpN HC2.out i hlt hic
          obtain ⟨ad5, hd5, b0, b1, b2, b3⟩ := atCpN HT2.out.comps i hlt hic
          obtain rfl : ad5 = ⟨g5, 0, none⟩ := by injection hd5 with hd5; exact hd5.symm
          have e5 : Addr.add ⟨g5, 0, none⟩ (i * 4) = ⟨g5, i * 4, none⟩ := add_plain _ _
          rw [e5] at b0 b1 b2 b3
          generalize cs[i] = x at *
          have heq := eqCp x.f0 x.f1 x.f2 x.f3
          clear hd5 e5
          go_wp2_with fail
          go_quiet (fail)
          have HBq := Lib.hid (below_step hBr.out (pw_below_drewN (Below.refl _ _) nq))
          go_wp2_with fail
          go_roundw
          case rel => exact ⟨i + 1, by omega, by go_num, HBq⟩
          case measure => simp [intOf]; omega
        · obtain rfl : i = n := by omega
          have HSE := Lib.hid (show ∀ W', Below w2.heap.size w2 W' → Calls Try.prog 19 #[.slice (some ⟨g6, 0, none⟩) m c6, .slice AW m cw] W' (True_ W') from fun W' hb => by
            have h1 := Kd.C_below HT2.out.where_ hb
            have h2 := Kd.C_below HW2.out hb
            rw [HT.out.m_] at h1 h2 ⊢
            exact sameExprs_same ws _ _ _ _ W' h1 h2)
          have hcut := cutH24 g6 m c6 (Nat.le_add_right _ _) HT.out.mc HT.out.mx
          go_upto_region 11 with fail
          clear x8 y0
          have HKeep := Lib.hid (show ∀ w', Below w2.heap.size w2 w' → w'.cell? ⟨w.heap.size, 9, none⟩ = some (.slice (some ⟨g6, 0, none⟩) (m + 12) c6) ∧ w'.cell? ⟨w.heap.size + 1, 4, none⟩ = some (.slice AW m cw) from fun w' hb => ⟨pw_cell_below hb x9, pw_cell_below hb y4⟩)
          go_region_held3 (fun w' => w'.cell? ⟨w.heap.size, 9, none⟩ = some (.slice (some ⟨g6, 0, none⟩) (m + 12) c6) ∧ w'.cell? ⟨w.heap.size + 1, 4, none⟩ = some (.slice AW m cw)) (first | exact HKeep.out _ (Below.refl _ _) | exact HKeep.out _ (below_drew (Below.refl _ _)) | exact HKeep.out _ (by assumption) | exact HKeep.out _ (below_drew (by assumption))) ((go_at_call 19; refine (HSE.out _ (by first | assumption | exact below_drew (by assumption) | exact below_drew (Below.refl _ _))).mono ?_; rintro e wz ⟨rfl, hbz⟩; have hbk : Below w2.heap.size w2 wz := (by first | exact below_step (below_drew (Below.refl _ _)) hbz | exact below_step (by assumption) hbz | exact below_step (below_drew (by assumption)) hbz)))
          have HT3 := HT2.out.below hbk
          have hW := roomWhole_any R ls vL wz HT3.room HT3.marks hl
          have HBz := Lib.hid (below_step HB2.out hbk)
          have x10z := pw_cell_below hbk x10
          clear x9 x10 y4 HKeep HSE hcut HT3
          go_wp2_with fail
          refine hW.mono ?_
          rintro e wy ⟨rfl, rfl⟩
          go_wp2_with fail
          go_ret
          exact ⟨rfl, HBz.out⟩
end Go.Proofs.Ytgnifglolbfamaa
