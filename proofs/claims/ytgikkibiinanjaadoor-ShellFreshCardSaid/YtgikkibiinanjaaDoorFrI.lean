/- The law ShellFresh, walked. -/
import Derived.Test.YtgikkibiinanjaaDoorFrJ
import Derived.BigQuiet
import Derived.Deep.QuietTactic
set_option linter.unusedVariables false
set_option linter.unusedSimpArgs false
namespace Go.Proofs.YtgikkibiinanjaaDoor
open Go.RowKit

theorem keep1 {w w' : World} {a : Addr} {v : Value} (hb : Below w.heap.size w w') (h : w.cell? a = some v) : w'.cell? a = some v := (hb.cell (World.block_lt_of_cell? _ _ h)).trans h
theorem k_succ (k : Nat) : Value.int .i64 ((k : Int) + 1) = Value.int .i64 ((k + 1 : Nat) : Int) := rfl
theorem words_row' (s : ByteArray) (w : World) : Calls Tryd.prog 5 #[.string s] w fun e w' => ∃ r : Rw, e = .returned (.tuple #[.slice r.A r.n r.cap, .int .i64 (wordsOf s.data.toList).2]) ∧ Below w.heap.size w w' ∧ URow w' r (wordsOf s.data.toList).1 ∧ ∀ g, r.g = some g → w.heap.size ≤ g := words_row s w
theorem texts_rows (a b : Rw) (l : List (List UInt8)) (w : World) (ha : URow w a l) (hb : URow w b l) : Calls Tryd.prog 6 #[.slice a.A a.n a.cap, .slice b.A b.n b.cap] w fun e w' => e = .returned (.bool true) ∧ ∃ n, w' = w.drewN n :=
  (texts_any _ _ l l w ha.strs hb.strs).mono fun e w' ⟨h1, h2⟩ => ⟨by rw [h1]; simp, h2⟩
theorem st_new (w : World) (base : Nat) (hb : base ≤ w.heap.size) : St (w.alloc (.cells #[.slice none 0 0, .int .i64 0, .int .i64 0] 26)) base w.heap.size (.slice none 0 0) [] 0 [] (fun _ _ => undef) (.slice none 0 0) [] (.slice none 0 0) [] := by
  have hu : UOk (w.alloc (.cells #[.slice none 0 0, .int .i64 0, .int .i64 0] 26)) base (.slice none 0 0) [] := ⟨World.ownsRow_nil _ _ _ _, by simp, fun i j hi => by simp at hi, by simp⟩
  refine ⟨⟨⟨heap_alloc_new w _, World.ownsRow_nil _ _ _ _⟩, ⟨rfl, fun k hk => by simp at hk⟩, Nat.le_refl _, fun r hr => by simp at hr, fun i j hi => by simp at hi, fun k hk => by simp at hk, fun r hr => by simp at hr, hb, by simp, by simp⟩, hu, hu, fun r hr => by simp at hr, fun r hr => by simp at hr, ?_, ?_, ?_⟩ <;> intro k hk <;> simp [Value.ownBlock] at hk

set_option maxHeartbeats 8000000 in
set_option maxRecDepth 100000 in
theorem fresh_walk (A : Option Addr) (n c : Nat) (ss : Nat → ByteArray) (w : World) (hn : n ≤ 8796093022208) (hc : ∀ i, i < n → ∃ ad, A = some ad ∧ w.cell? (ad.add i) = some (.string (ss i))) (hs : ∀ i, i < n → (ss i).size ≤ 140737488355328)
    (ht : Lib.TabIs Tryd.prog w "internal/strconv.uint64pow10" .u64 Lib.pow10Tab) :
    Calls Tryd.prog 3 #[.slice A n c] w fun e w' => e = .returned (.bool true) ∧ Below w.heap.size w w' := by
  have HC := Lib.hid hc
  have HS := Lib.hid hs
  have HT : Hid (Tab w.heap.size w) := Lib.hid (Lib.tabBelow_of_tabIs ht)
  clear hc hs ht
  go_enter Tryd.func3, Tryd.ntmps3
  go_wp2_with (go_at_call 4; refine (worded_any _).mono ?_; rintro e w0 ⟨rfl, hb0⟩)
  have hST0 := Lib.hid (st_new w0 w.heap.size hb0.size)
  have hB0 := ext_trans hb0 (below_alloc' (W := w0) (.cells #[.slice none 0 0, .int .i64 0, .int .i64 0] 26))
  generalize w0.heap.size = G at *
  generalize w0.alloc (.cells #[.slice none 0 0, .int .i64 0, .int .i64 0] 26) = W1 at *
  clear hb0
  go_loopw [4, 5, 6, 7] (fun t4 t5 t6 t7 wr => ∃ k hh : Nat, k ≤ n ∧ t7 = .int .i64 k ∧ t6 = .int .i64 hh ∧ hh ≤ 300000000000000 ∧ Below w.heap.size w wr ∧ ∃ vL xs s es M us ws, Hid (St wr w.heap.size G vL xs s es M t4 us t5 ws) ∧ Hid (us.map (fun u => u.2) = ws.map (fun u => u.2)) ∧ s ≤ (k : Int) * 410000 ∧ 800 * us.length ≤ hh ∧ us.length ≤ 41945 ∧ ws.length = us.length ∧ Hid (∀ u ∈ us, u.2.length ≤ 10000)) (fun _ _ _ t7 _ => n - (intOf t7).toNat)
  case atStart => exact ⟨0, 0, by omega, rfl, rfl, by omega, hB0, .slice none 0 0, [], 0, [], _, [], [], hST0, Lib.hid rfl, by omega, by simp, by simp, rfl, Lib.hid (by simp)⟩
  case round =>
    obtain ⟨k, hh, hk, rfl, rfl, hhh, hB, vL, xs, s, es, M, us, ws, hSt, hEq, hs1, hul, hul2, hwl, hLen⟩ := hrel
    generalize wr = w2 at *
    obtain ⟨A4, k4, rfl, hk4, hk4', hA4⟩ := own_form hSt.out.all.own
    obtain ⟨A5, k5, rfl, hk5, hk5', hA5⟩ := own_form hSt.out.were.own
    have HWL := Lib.hid hwl
    have HA4g := Lib.hid hA4
    have HA5g := Lib.hid hA5
    clear hwl hA4 hA5
    by_cases hlt : k < n
    · obtain ⟨ad, rfl, c0⟩ := HC.out k hlt
      have c1 := keep1 hB c0
      have hsz := HS.out k hlt
      generalize ss k = S at *
      clear c0
      have i1 : (0 : Int) ≤ (k : Int) := by omega
      have i2 : (k : Int) < n := by omega
      have hwd := fun wx => words_row' S wx
      have hwl2 := words_len S.data.toList
      generalize wordsOf S.data.toList = wo at *
      obtain ⟨l, er⟩ := wo
      have HWD := Lib.hid hwd
      have hll : l.length ≤ 10000 := hwl2
      clear hwd hwl2
      go_wp2_with fail
      refine (HWD.out _).mono ?_
      rintro e W3 ⟨a, rfl, hb3, hA3, hga⟩
      have c2 := keep1 hb3 c1
      have HA3 := Lib.hid hA3
      have HGA := Lib.hid hga
      clear hA3 hga
      go_wp2_with fail
      refine (HWD.out _).mono ?_
      rintro e W4 ⟨b, rfl, hb4, hB4, hgb⟩
      have c3 := keep1 hb4 c2
      have HA4 := Lib.hid (HA3.out.only (S := fun _ => False) (Only.of_below hb4) (fun _ _ h => h))
      have HB4 := Lib.hid hB4
      have HGB := Lib.hid hgb
      clear hB4 hgb c1 c2
      go_wp2_with fail
      refine (texts_rows a b l _ HA4.out HB4.out).mono ?_
      rintro e W5 ⟨rfl, n5, rfl⟩
      have hb5 := ext_drewN W4 n5
      generalize W4.drewN n5 = W5 at *
      have hsz3 := hb3.size
      have hsz4 := hb4.size
      have hbw := ext_trans hb3 (ext_trans hb4 hb5)
      have hBw := ext_trans hB hbw
      have HK := Lib.hid (hSt.out.keep hbw hBw.size (hB.size) (HT.out.on hBw) a b l (HA4.out.only (S := fun _ => False) (Only.of_below hb5) (fun _ _ h => h)) (HB4.out.only (S := fun _ => False) (Only.of_below hb5) (fun _ _ h => h)) HGA.out (fun g hg => by have := HGB.out g hg; omega)
        (fun g h1 h2 => by have := HGB.out g h2; have := HA3.out.lt g h1; omega) hll (by omega))
      have c4 := keep1 hb5 c3
      clear c3
      go_wp2_with fail
      refine HK.out.mono ?_
      rintro e W6 ⟨rfl, vL6, xs6, es6, M6, hSt6, hB6, hoff6, hbl6⟩
      have c5 : W6.cell? (ad.add k) = some (.string S) := by
        have h1 : (ad.add k).block < w.heap.size := by
          obtain ⟨ad', e, h⟩ := HC.out k hlt
          cases e
          exact World.block_lt_of_cell? _ _ h
        rw [hbl6.cell h1]
        exact c4
      have HST6 := Lib.hid hSt6
      have HB6 := Lib.hid hB6
      have HOFF6 := Lib.hid hoff6
      have hB6' := Below.trans hBw hbl6
      clear c4 hSt6 hB6 hoff6
      go_wp2_with fail
      refine (HWD.out _).mono ?_
      rintro e W7 ⟨cc, rfl, hb7, hC7, hgc⟩
      have c6 := keep1 hb7 c5
      have HB7 := Lib.hid (HB6.out.only (S := fun _ => False) (Only.of_below hb7) (fun _ _ h => h))
      have HC7 := Lib.hid hC7
      have HGC := Lib.hid hgc
      clear c5 hC7 hgc
      go_wp2_with fail
      refine (texts_rows cc b l _ HC7.out HB7.out).mono ?_
      rintro e W8 ⟨rfl, n8, rfl⟩
      have hb8 := ext_drewN W7 n8
      generalize W7.drewN n8 = W8 at *
      have hbw8 := ext_trans hb7 hb8
      have HST8 := Lib.hid (HST6.out.below hbw8)
      have HB8 := Lib.hid (HB7.out.only (S := fun _ => False) (Only.of_below hb8) (fun _ _ h => h))
      have HC8 := Lib.hid (HC7.out.only (S := fun _ => False) (Only.of_below hb8) (fun _ _ h => h))
      have hB8 := ext_trans hB6' hbw8
      have c8 := keep1 hb8 c6
      clear c6
      have HWH := Lib.hid (wholeB HST8.out.book hB8.size (HT.out.on hB8))
      have HBC : Hid (∀ g, b.g = some g → cc.g ≠ some g) := Lib.hid (fun g h1 h2 => by have := HB6.out.lt g h1; have := HGC.out g h2; omega)
      have HFB : Hid (∀ g, b.g = some g → w.heap.size ≤ g ∧ (∀ u ∈ us, u.1.g ≠ some g) ∧ ∀ r ∈ es6, r.g ≠ some g) := Lib.hid (fun g hg => by
        have h1 := HGB.out g hg
        have h2 := hB.size
        refine ⟨by omega, fun u hu h3 => ?_, fun r hr h3 => HOFF6.out r hr g h3 hg⟩
        have := hSt.out.all.lt g (Or.inr ⟨u, hu, h3⟩)
        omega)
      have HFC : Hid (∀ g, cc.g = some g → w.heap.size ≤ g ∧ (∀ u ∈ us, u.1.g ≠ some g) ∧ ∀ r ∈ es6, r.g ≠ some g) := Lib.hid (fun g hg => by
        have h1 := HGC.out g hg
        have h2 := hB6'.size
        refine ⟨by omega, fun u hu h3 => ?_, fun r hr h3 => ?_⟩
        · have := HST6.out.all.lt g (Or.inr ⟨u, hu, h3⟩); omega
        · have := (HST6.out.book.in_ r hr).lt g h3; omega)
      by_cases hm : (k : Int) % 64 = 63
      · go_wp2_with fail
        refine HWH.out.mono ?_
        rintro e W9 ⟨rfl, hb9⟩
        have HST9 := Lib.hid (HST8.out.below hb9)
        have HB9 := Lib.hid (HB8.out.only (S := fun _ => False) (Only.of_below hb9) (fun _ _ h => h))
        have HC9 := Lib.hid (HC8.out.only (S := fun _ => False) (Only.of_below hb9) (fun _ _ h => h))
        have hB9 := ext_trans hB8 hb9
        have c9 := keep1 hb9 c8
        clear c8 hb9
        by_cases hle : (hh : Int) ≤ 33554432
        · have HOA : W9.ownsRow w.heap.size 22 1 (.slice A4 us.length k4) (valsOf us).length (valsOf us) := by rw [valsOf_len]; exact HST9.out.all.own
          have hvl := valsOf_len us
          have HVL := Lib.hid hvl
          clear hvl
          go_wp2_with (at_builtin; go_must (refine app_two (W := W9) w.heap.size W9.heap.size (by rfl) (by rfl) _ _ (by rfl) _ (valsOf us) _ _ (by rfl) (by rfl) (by rfl) (by rfl) HOA hB9.size (by rw [HVL.out]; omega) ?_))
          intro v1 W10 hO1 hOn1 hat1
          have hO1' : W10.ownsRow w.heap.size 22 1 v1 (us.length + 2) (valsOf us ++ [b.v b.n, cc.v cc.n]) := by
            have h := hO1.out
            have e : (valsOf us ++ [Value.slice b.A b.n b.cap, Value.slice cc.A cc.n cc.cap]).length = us.length + 2 := by simp [HVL.out]
            first | (rw [e] at h; exact h) | (rw [HVL.out] at h; exact h)
          have hst10 := HST9.out.addU hOn1.out b cc l hO1' hat1.out HB9.out HC9.out (fun g h1 h2 => HBC.out g h1 h2) HFB.out HFC.out
          have hrow10 : ∀ (r : Rw), URow W9 r l → URow W10 r l := fun r hr => hr.only hOn1.out (fun g hg hS => by
            obtain ⟨cur, hc⟩ := hr.blk g hg
            obtain ⟨cur', hc'⟩ := own_blk HST9.out.all.own g hS
            exact ne_type hc hc' (by decide) rfl)
          have HST10 := Lib.hid hst10
          have HB10 := Lib.hid (hrow10 b HB9.out)
          have HC10 := Lib.hid (hrow10 cc HC9.out)
          have hB10 : Below w.heap.size w W10 := hB9.trans (hOn1.out.below hB9.size (fun j hj hS => by have := (HST9.out.all.own.lt j hS).1; omega))
          have c10 : W10.cell? (ad.add k) = some (.string S) := by
            have h1 : (ad.add k).block < w.heap.size := by
              obtain ⟨ad', e, h⟩ := HC.out k hlt
              cases e
              exact World.block_lt_of_cell? _ _ h
            rw [(hOn1.out.below (B := w.heap.size) hB9.size (fun j hj hS => by have := (HST9.out.all.own.lt j hS).1; omega)).cell h1]
            exact c9
          clear hst10 hrow10 hO1 hO1' c9 HOA
          go_wp2_with (at_builtin; go_must (refine app_copy (W := W10) (by rfl) _ _ (by rfl) b l b.A b.n b.cap HB10.out (by rfl) hll (by rfl) (by rfl) ?_))
          intro x W11 hX hb11 hgx
          have HC11 := Lib.hid (HC10.out.only (S := fun _ => False) (Only.of_below hb11.out) (fun _ _ h => h))
          go_wp2_with (at_builtin; go_must (refine app_copy (W := W11) (by rfl) _ _ (by rfl) cc l cc.A cc.n cc.cap HC11.out (by rfl) hll (by rfl) (by rfl) ?_))
          intro y W12 hY hb12 hgy
          have hb1012 := ext_trans hb11.out hb12.out
          have HST12 := Lib.hid (HST10.out.below hb1012)
          have hB12 := ext_trans hB10 hb1012
          have HX12 := Lib.hid (hX.out.only (S := fun _ => False) (Only.of_below hb12.out) (fun _ _ h => h))
          have hvw := valsOf_len ws
          have HVW := Lib.hid hvw
          clear hvw
          have HOW : W12.ownsRow w.heap.size 22 1 (.slice A5 ws.length k5) (valsOf ws).length (valsOf ws) := by rw [HVW.out]; exact HST12.out.were.own
          have c12 := keep1 hb1012 c10
          clear c10
          go_wp2_with (at_builtin; go_must (refine app_two (W := W12) w.heap.size W12.heap.size (by rfl) (by rfl) _ _ (by rfl) _ (valsOf ws) _ _ (by rfl) (by rfl) (by rfl) (by rfl) HOW hB12.size (by rw [HVW.out, HWL.out]; omega) ?_))
          intro v2 W13 hO2 hOn2 hat2
          have hO2' : W13.ownsRow w.heap.size 22 1 v2 (ws.length + 2) (valsOf ws ++ [x.v x.n, y.v y.n]) := by
            have h := hO2.out
            have e : (valsOf ws ++ [Value.slice x.A x.n x.cap, Value.slice y.A y.n y.cap]).length = ws.length + 2 := by simp [HVW.out]
            first | (rw [e] at h; exact h) | (rw [HVW.out] at h; exact h)
          have hlt10 : ∀ (r : Rw), (∀ g, r.g = some g → W10.heap.size ≤ g) → ∀ g, r.g = some g → w.heap.size ≤ g ∧ (∀ u ∈ ws, u.1.g ≠ some g) ∧ ∀ r' ∈ es6, r'.g ≠ some g := by
            intro r hr g hg
            have h1 := hr g hg
            have h2 := hB10.size
            refine ⟨by omega, fun u hu h3 => ?_, fun r' hr' h3 => ?_⟩
            · have := HST10.out.were.lt g (Or.inr ⟨u, hu, h3⟩); omega
            · have := (HST10.out.book.in_ r' hr').lt g h3; omega
          have hst13 := (HST12.out.swap.addU hOn2.out x y l hO2' hat2.out HX12.out hY.out (fun g h1 h2 => by have := hX.out.lt g h1; have := hgy.out g h2; omega) (hlt10 x hgx.out) (hlt10 y (fun g hg => by have := hgy.out g hg; have := hb11.out.size; omega))).swap
          have HST13 := Lib.hid hst13
          have hbl13 := (hOn2.out.below (B := w.heap.size) hB12.size (fun j hj hS => by have := (HST12.out.were.own.lt j hS).1; omega))
          have hB13 : Below w.heap.size w W13 := hB12.trans hbl13
          have c13 : W13.cell? (ad.add k) = some (.string S) := by
            have h1 : (ad.add k).block < w.heap.size := by
              obtain ⟨ad', e, h⟩ := HC.out k hlt
              cases e
              exact World.block_lt_of_cell? _ _ h
            rw [hbl13.cell h1]
            exact c12
          clear hst13 hlt10 hO2 hO2' c12 HOW
          have hbn : b.n = l.length := by obtain ⟨f, _, h, _⟩ := HB10.out; exact h
          have hbn2 : b.n ≤ 10000 := by omega
          have HBN := Lib.hid hbn
          clear hbn
          have hw1 : IntKind.i64.wrap ((hh : Int) + 1600) = (hh : Int) + 1600 := IntWalk.i64_in _ (by omega)
          have hw2 : IntKind.i64.wrap (100 * (b.n : Int)) = 100 * (b.n : Int) := IntWalk.i64_in _ (by omega)
          have hw3 : IntKind.i64.wrap ((hh : Int) + 1600 + 100 * (b.n : Int)) = (hh : Int) + 1600 + 100 * (b.n : Int) := IntWalk.i64_in _ (by omega)
          have hw4 : IntKind.i64.wrap (2 * (S.size : Int)) = 2 * (S.size : Int) := IntWalk.i64_in _ (by omega)
          have hw5 : IntKind.i64.wrap ((hh : Int) + 1600 + 100 * (b.n : Int) + 2 * (S.size : Int)) = (hh : Int) + 1600 + 100 * (b.n : Int) + 2 * (S.size : Int) := IntWalk.i64_in _ (by omega)
          go_wp2_with fail
          go_roundw
          case rel =>
            refine ⟨k + 1, hh + 1600 + 100 * b.n + 2 * S.size, by omega, k_succ k, by go_num, by omega, hB13, vL6, xs6, s + 1000 + 40 * (l.length : Int), es6, M6, us ++ [(b, l), (cc, l)], ws ++ [(x, l), (y, l)], HST13, Lib.hid (by simp [hEq.out]), by omega, by simp; omega, by simp; omega, by have := HWL.out; simp; omega, Lib.hid (fun u hu => by
              rcases List.mem_append.1 hu with hu | hu
              · exact hLen.out u hu
              · simp at hu
                rcases hu with rfl | rfl <;> exact hll)⟩
          case measure => simp [intOf]; omega
        · go_wp2_with fail
          go_roundw
          case rel =>
            exact ⟨k + 1, hh, by omega, k_succ k, rfl, hhh, hB9, vL6, xs6, s + 1000 + 40 * (l.length : Int), es6, M6, us, ws, HST9, hEq, by omega, hul, hul2, HWL.out, hLen⟩
          case measure => simp [intOf]; omega
      · have hb9 := Below.refl W8.heap.size W8
        have HST9 := Lib.hid (HST8.out.below hb9)
        have HB9 := Lib.hid (HB8.out.only (S := fun _ => False) (Only.of_below hb9) (fun _ _ h => h))
        have HC9 := Lib.hid (HC8.out.only (S := fun _ => False) (Only.of_below hb9) (fun _ _ h => h))
        have hB9 := ext_trans hB8 hb9
        have c9 := keep1 hb9 c8
        clear c8 hb9
        by_cases hle : (hh : Int) ≤ 33554432
        · have HOA : W8.ownsRow w.heap.size 22 1 (.slice A4 us.length k4) (valsOf us).length (valsOf us) := by rw [valsOf_len]; exact HST9.out.all.own
          have hvl := valsOf_len us
          have HVL := Lib.hid hvl
          clear hvl
          go_wp2_with (at_builtin; go_must (refine app_two (W := W8) w.heap.size W8.heap.size (by rfl) (by rfl) _ _ (by rfl) _ (valsOf us) _ _ (by rfl) (by rfl) (by rfl) (by rfl) HOA hB9.size (by rw [HVL.out]; omega) ?_))
          intro v1 W10 hO1 hOn1 hat1
          have hO1' : W10.ownsRow w.heap.size 22 1 v1 (us.length + 2) (valsOf us ++ [b.v b.n, cc.v cc.n]) := by
            have h := hO1.out
            have e : (valsOf us ++ [Value.slice b.A b.n b.cap, Value.slice cc.A cc.n cc.cap]).length = us.length + 2 := by simp [HVL.out]
            first | (rw [e] at h; exact h) | (rw [HVL.out] at h; exact h)
          have hst10 := HST9.out.addU hOn1.out b cc l hO1' hat1.out HB9.out HC9.out (fun g h1 h2 => HBC.out g h1 h2) HFB.out HFC.out
          have hrow10 : ∀ (r : Rw), URow W8 r l → URow W10 r l := fun r hr => hr.only hOn1.out (fun g hg hS => by
            obtain ⟨cur, hc⟩ := hr.blk g hg
            obtain ⟨cur', hc'⟩ := own_blk HST9.out.all.own g hS
            exact ne_type hc hc' (by decide) rfl)
          have HST10 := Lib.hid hst10
          have HB10 := Lib.hid (hrow10 b HB9.out)
          have HC10 := Lib.hid (hrow10 cc HC9.out)
          have hB10 : Below w.heap.size w W10 := hB9.trans (hOn1.out.below hB9.size (fun j hj hS => by have := (HST9.out.all.own.lt j hS).1; omega))
          have c10 : W10.cell? (ad.add k) = some (.string S) := by
            have h1 : (ad.add k).block < w.heap.size := by
              obtain ⟨ad', e, h⟩ := HC.out k hlt
              cases e
              exact World.block_lt_of_cell? _ _ h
            rw [(hOn1.out.below (B := w.heap.size) hB9.size (fun j hj hS => by have := (HST9.out.all.own.lt j hS).1; omega)).cell h1]
            exact c9
          clear hst10 hrow10 hO1 hO1' c9 HOA
          go_wp2_with (at_builtin; go_must (refine app_copy (W := W10) (by rfl) _ _ (by rfl) b l b.A b.n b.cap HB10.out (by rfl) hll (by rfl) (by rfl) ?_))
          intro x W11 hX hb11 hgx
          have HC11 := Lib.hid (HC10.out.only (S := fun _ => False) (Only.of_below hb11.out) (fun _ _ h => h))
          go_wp2_with (at_builtin; go_must (refine app_copy (W := W11) (by rfl) _ _ (by rfl) cc l cc.A cc.n cc.cap HC11.out (by rfl) hll (by rfl) (by rfl) ?_))
          intro y W12 hY hb12 hgy
          have hb1012 := ext_trans hb11.out hb12.out
          have HST12 := Lib.hid (HST10.out.below hb1012)
          have hB12 := ext_trans hB10 hb1012
          have HX12 := Lib.hid (hX.out.only (S := fun _ => False) (Only.of_below hb12.out) (fun _ _ h => h))
          have hvw := valsOf_len ws
          have HVW := Lib.hid hvw
          clear hvw
          have HOW : W12.ownsRow w.heap.size 22 1 (.slice A5 ws.length k5) (valsOf ws).length (valsOf ws) := by rw [HVW.out]; exact HST12.out.were.own
          have c12 := keep1 hb1012 c10
          clear c10
          go_wp2_with (at_builtin; go_must (refine app_two (W := W12) w.heap.size W12.heap.size (by rfl) (by rfl) _ _ (by rfl) _ (valsOf ws) _ _ (by rfl) (by rfl) (by rfl) (by rfl) HOW hB12.size (by rw [HVW.out, HWL.out]; omega) ?_))
          intro v2 W13 hO2 hOn2 hat2
          have hO2' : W13.ownsRow w.heap.size 22 1 v2 (ws.length + 2) (valsOf ws ++ [x.v x.n, y.v y.n]) := by
            have h := hO2.out
            have e : (valsOf ws ++ [Value.slice x.A x.n x.cap, Value.slice y.A y.n y.cap]).length = ws.length + 2 := by simp [HVW.out]
            first | (rw [e] at h; exact h) | (rw [HVW.out] at h; exact h)
          have hlt10 : ∀ (r : Rw), (∀ g, r.g = some g → W10.heap.size ≤ g) → ∀ g, r.g = some g → w.heap.size ≤ g ∧ (∀ u ∈ ws, u.1.g ≠ some g) ∧ ∀ r' ∈ es6, r'.g ≠ some g := by
            intro r hr g hg
            have h1 := hr g hg
            have h2 := hB10.size
            refine ⟨by omega, fun u hu h3 => ?_, fun r' hr' h3 => ?_⟩
            · have := HST10.out.were.lt g (Or.inr ⟨u, hu, h3⟩); omega
            · have := (HST10.out.book.in_ r' hr').lt g h3; omega
          have hst13 := (HST12.out.swap.addU hOn2.out x y l hO2' hat2.out HX12.out hY.out (fun g h1 h2 => by have := hX.out.lt g h1; have := hgy.out g h2; omega) (hlt10 x hgx.out) (hlt10 y (fun g hg => by have := hgy.out g hg; have := hb11.out.size; omega))).swap
          have HST13 := Lib.hid hst13
          have hbl13 := (hOn2.out.below (B := w.heap.size) hB12.size (fun j hj hS => by have := (HST12.out.were.own.lt j hS).1; omega))
          have hB13 : Below w.heap.size w W13 := hB12.trans hbl13
          have c13 : W13.cell? (ad.add k) = some (.string S) := by
            have h1 : (ad.add k).block < w.heap.size := by
              obtain ⟨ad', e, h⟩ := HC.out k hlt
              cases e
              exact World.block_lt_of_cell? _ _ h
            rw [hbl13.cell h1]
            exact c12
          clear hst13 hlt10 hO2 hO2' c12 HOW
          have hbn : b.n = l.length := by obtain ⟨f, _, h, _⟩ := HB10.out; exact h
          have hbn2 : b.n ≤ 10000 := by omega
          have HBN := Lib.hid hbn
          clear hbn
          have hw1 : IntKind.i64.wrap ((hh : Int) + 1600) = (hh : Int) + 1600 := IntWalk.i64_in _ (by omega)
          have hw2 : IntKind.i64.wrap (100 * (b.n : Int)) = 100 * (b.n : Int) := IntWalk.i64_in _ (by omega)
          have hw3 : IntKind.i64.wrap ((hh : Int) + 1600 + 100 * (b.n : Int)) = (hh : Int) + 1600 + 100 * (b.n : Int) := IntWalk.i64_in _ (by omega)
          have hw4 : IntKind.i64.wrap (2 * (S.size : Int)) = 2 * (S.size : Int) := IntWalk.i64_in _ (by omega)
          have hw5 : IntKind.i64.wrap ((hh : Int) + 1600 + 100 * (b.n : Int) + 2 * (S.size : Int)) = (hh : Int) + 1600 + 100 * (b.n : Int) + 2 * (S.size : Int) := IntWalk.i64_in _ (by omega)
          go_wp2_with fail
          go_roundw
          case rel =>
            refine ⟨k + 1, hh + 1600 + 100 * b.n + 2 * S.size, by omega, k_succ k, by go_num, by omega, hB13, vL6, xs6, s + 1000 + 40 * (l.length : Int), es6, M6, us ++ [(b, l), (cc, l)], ws ++ [(x, l), (y, l)], HST13, Lib.hid (by simp [hEq.out]), by omega, by simp; omega, by simp; omega, by have := HWL.out; simp; omega, Lib.hid (fun u hu => by
              rcases List.mem_append.1 hu with hu | hu
              · exact hLen.out u hu
              · simp at hu
                rcases hu with rfl | rfl <;> exact hll)⟩
          case measure => simp [intOf]; omega
        · go_wp2_with fail
          go_roundw
          case rel =>
            exact ⟨k + 1, hh, by omega, k_succ k, rfl, hhh, hB9, vL6, xs6, s + 1000 + 40 * (l.length : Int), es6, M6, us, ws, HST9, hEq, by omega, hul, hul2, HWL.out, hLen⟩
          case measure => simp [intOf]; omega
    · obtain rfl : k = n := by omega
      have HWH := Lib.hid (wholeB hSt.out.book hB.size (HT.out.on hB))
      go_wp2_with fail
      refine HWH.out.mono ?_
      rintro e W9 ⟨rfl, hb9⟩
      have HST9 := Lib.hid (hSt.out.below hb9)
      have hB9 := ext_trans hB hb9
      clear hb9
      go_wp2_with fail
      go_loopw [14] (fun t14 wr => ∃ i : Nat, i ≤ us.length ∧ t14 = .int .i64 i ∧ Hid (Below W9.heap.size W9 wr)) (fun t14 _ => us.length - (intOf t14).toNat)
      case atStart => exact ⟨0, by omega, rfl, Lib.hid (Below.refl _ _)⟩
      case round =>
        obtain ⟨i, hi, rfl, hbi⟩ := hrel
        generalize wr = w3 at *
        by_cases hlt2 : i < us.length
        · have i1 : (0 : Int) ≤ (i : Int) := by omega
          have i2 : (i : Int) < us.length := by omega
          have i3 : (i : Int) < ws.length := by have := HWL.out; omega
          have hwi : i < ws.length := by have := HWL.out; omega
          obtain ⟨g4, rfl⟩ := HA4g.out (by omega)
          obtain ⟨g5, rfl⟩ := HA5g.out (by omega)
          have HS3 := Lib.hid (HST9.out.below hbi.out)
          have e1 : w3.cell? ⟨g4, i, none⟩ = some (.slice us[i].1.A us[i].1.n us[i].1.cap) := by
            rw [HS3.out.all.own.cellAt i (by omega), valsOf_get us i hlt2]
            rfl
          have e2 : w3.cell? ⟨g5, i, none⟩ = some (.slice ws[i].1.A ws[i].1.n ws[i].1.cap) := by
            rw [HS3.out.were.own.cellAt i (by omega), valsOf_get ws i hwi]
            rfl
          have hsame : us[i].2 = ws[i].2 := by
            have h := congrArg (fun l => l[i]?) hEq.out
            simp [List.getElem?_eq_getElem hlt2, List.getElem?_eq_getElem hwi] at h
            exact h
          have hu1 := HS3.out.all.rows us[i] (List.getElem_mem hlt2)
          have hu2 := HS3.out.were.rows ws[i] (List.getElem_mem hwi)
          rw [← hsame] at hu2
          have HTX := Lib.hid (fun (q : Nat) => texts_rows us[i].1 ws[i].1 us[i].2 (w3.drewN q) (hu1.only (S := fun _ => False) (Only.drewN q) (fun _ _ h => h)) (hu2.only (S := fun _ => False) (Only.drewN q) (fun _ _ h => h)))
          generalize us[i].1 = x1 at *
          generalize ws[i].1 = x2 at *
          clear hsame hu1 hu2
          go_wp2_with fail
          go_quiet (first | (go_at_call 6; refine Calls.quiet_of (HTX.out _)))
          have hbq := ext_trans hbi.out (ext_drewN w3 nq)
          generalize w3.drewN nq = w4 at *
          clear e1 e2
          go_wp2_with fail
          go_roundw
          case rel => exact ⟨i + 1, by omega, k_succ i, Lib.hid hbq⟩
          case measure => simp [intOf]; omega
        · obtain rfl : i = us.length := by omega
          have HS3 := Lib.hid (HST9.out.below hbi.out)
          have hB3 := ext_trans hB9 hbi.out
          have HF := Lib.hid (HS3.out.fin hLen.out hB3.size)
          have hB4 := ext_trans hB3 (below_alloc' (W := w3) (.cells #[.slice none 0 0, .int .i64 0, .int .i64 0] 26))
          go_wp2_with fail
          generalize w3.heap.size = G2 at *
          generalize w3.alloc (.cells #[.slice none 0 0, .int .i64 0, .int .i64 0] 26) = w4 at *
          go_loopw [16] (fun t16 wr => ∃ i : Nat, i ≤ us.length ∧ t16 = .int .i64 i ∧ Hid (Below w.heap.size w wr) ∧ ∃ v2 xs2 s2 es2 M2, Hid (Fin wr w.heap.size G G2 vL xs s es M (.slice A4 us.length k4) us v2 xs2 s2 es2 M2 i)) (fun t16 _ => us.length - (intOf t16).toNat)
          case atStart => exact ⟨0, by omega, rfl, Lib.hid hB4, _, _, _, _, _, HF⟩
          case round =>
            obtain ⟨i, hi, rfl, hbi, v2, xs2, s2, es2, M2, hF⟩ := hrel
            generalize wr = w5 at *
            by_cases hlt2 : i < us.length
            · have i1 : (0 : Int) ≤ (i : Int) := by omega
              have i2 : (i : Int) < us.length := by omega
              obtain ⟨g4, rfl⟩ := HA4g.out (by omega)
              have e1 : w5.cell? ⟨g4, i, none⟩ = some (.slice us[i].1.A us[i].1.n us[i].1.cap) := by
                rw [hF.out.own.cellAt i (by omega), valsOf_get us i hlt2]
                rfl
              have HSTEP := Lib.hid (hF.out.step hbi.out.size (HT.out.on hbi.out) hlt2 (by omega))
              unfold Rw.v at HSTEP
              generalize us[i].1 = x1 at *
              go_wp2_with fail
              refine HSTEP.out.mono ?_
              rintro e w6 ⟨rfl, hb6, v2', xs2', s2', es2', M2', hF'⟩
              have HF' := Lib.hid hF'
              have HB6 := Lib.hid (hbi.out.trans hb6)
              clear hF' e1
              go_wp2_with fail
              go_roundw
              case rel => exact ⟨i + 1, by omega, k_succ i, HB6, v2', xs2', s2', es2', M2', HF'⟩
              case measure => simp [intOf]; omega
            · obtain rfl : i = us.length := by omega
              have HGR := Lib.hid (hF.out.grow hbi.out.size (HT.out.on hbi.out))
              go_wp2_with fail
              refine HGR.out.mono ?_
              rintro e w6 ⟨rfl, hb6, hbk, xs2', M2', hlast⟩
              have HBK := Lib.hid hbk
              have HB6 := Lib.hid (hbi.out.trans hb6)
              have HW1 := Lib.hid (wholeB hlast HB6.out.size (HT.out.on HB6.out))
              clear hbk hlast hb6
              go_wp2_with fail
              refine HW1.out.mono ?_
              rintro e w7 ⟨rfl, hb7⟩
              have HB7 := Lib.hid (ext_trans HB6.out hb7)
              have HW2 := Lib.hid (wholeB (HBK.out.below hb7) HB7.out.size (HT.out.on HB7.out))
              clear hb7
              go_wp2_with fail
              refine HW2.out.mono ?_
              rintro e w8 ⟨rfl, hb8⟩
              have HB8 := Lib.hid (ext_trans HB7.out hb8)
              clear hb8
              go_wp2_with fail
              go_ret
              exact ⟨rfl, HB8.out⟩
end Go.Proofs.YtgikkibiinanjaaDoor
