import Derived.Test.YtcfgmkmllcfjjaaGreatDoorZBF
import Derived.Test.YtcfgmkmllcfjjaaGreatDoorZAM
set_option linter.unusedVariables false
set_option linter.unusedSimpArgs false
namespace Go.Proofs.YtcfgmkmllcfjjaaGreatDoor
open Go.RowKit Go.Proofs.YtcfgmkmllcfjjaaGreatDoorW.PrintWords Go.Proofs.YtcfgmkmllcfjjaaGreatDoorW.PrintMore PImageAll
def qvalue (l : List Int) (s : Ws) : S67 × Ws :=
  if (qone l s).2.2 = 0 then
    (if (qone l s).1 = 1 then (⟨1, (qnum l minI maxI (qone l s).2).1, ⟨#[]⟩, false⟩, (qnum l minI maxI (qone l s).2).2)
    else if (qone l s).1 = 2 then (⟨2, 0, (qtext l 0 256 (qone l s).2).1, false⟩, (qtext l 0 256 (qone l s).2).2)
    else if (qone l s).1 = 3 then (⟨3, 0, ⟨#[]⟩, (qone l (qone l s).2).1 == 1⟩, if 1 < (qone l (qone l s).2).1 then failW 31 (qone l (qone l s).2).2 else (qone l (qone l s).2).2)
    else (⟨(qone l s).1, 0, ⟨#[]⟩, false⟩, failW 31 (qone l s).2))
  else (⟨0, 0, ⟨#[]⟩, false⟩, (qone l s).2)
theorem qone_rng {l : List Int} (hl : Bytes l) (s : Ws) (hs : s.1 ≤ l.length) : 0 ≤ (qone l s).1 ∧ (qone l s).1 < 256 := by
  unfold qone
  split
  · split
    · exact ⟨show (0 : Int) ≤ 0 by decide, show (0 : Int) < 256 by decide⟩
    · rename_i h
      have hlt : s.1 < l.length := by omega
      show 0 ≤ (l.drop s.1).headD 0 ∧ (l.drop s.1).headD 0 < 256
      rw [List.drop_eq_getElem_cons hlt]
      exact hl _ (List.getElem_mem hlt)
  · exact ⟨show (0 : Int) ≤ 0 by decide, show (0 : Int) < 256 by decide⟩
def QVPost (w0 w : World) (g : Nat) (l : List Int) (x : S67) (s : Ws) (e : Ending) (w' : World) : Prop := QPost w0 w g l (.agg #[.int .i64 x.f0, .int .i64 x.f1, .string x.f2, .bool x.f3]) s e w'
theorem qput4 {w0 w w' : World} {g p : Nat} {l : List Int} {s : Ws} (hR : QRAt w0 w' g l s) (hO : Ro g w w') (h0 : w0.heap.size ≤ w.heap.size) (hp : w.heap.size ≤ p) (hn : p ≠ g) (a b c d : Value) :
    QRAt w0 ((((w'.setCell ⟨p, 0, none⟩ a).setCell ⟨p, 1, none⟩ b).setCell ⟨p, 2, none⟩ c).setCell ⟨p, 3, none⟩ d) g l s ∧ Ro g w ((((w'.setCell ⟨p, 0, none⟩ a).setCell ⟨p, 1, none⟩ b).setCell ⟨p, 2, none⟩ c).setCell ⟨p, 3, none⟩ d) :=
  ⟨(((hR.far (by omega) hn a).far (by omega) hn b).far (by omega) hn c).far (by omega) hn d, (((hO.setNew hp a).setNew hp b).setNew hp c).setNew hp d⟩
set_option maxRecDepth 100000 in
set_option maxHeartbeats 8000000 in
theorem qvalue_any {w0 w : World} {g : Nat} {l : List Int} {s : Ws} (hR : QRAt w0 w g l s) (hl : Bytes l) (hm : l.length ≤ 4611686018427387904) :
    Calls Tryz.prog 103 #[.pointer (some ⟨g, 0, none⟩)] w (QVPost w0 w g l (qvalue l s).1 (qvalue l s).2) := by
  generalize hW0 : w.alloc (.cells #[.int .i64 0, .int .i64 0, .string ⟨#[]⟩, .bool false] 67) = W0
  have HW0 := Lib.hid hW0
  have hb0 : Below w.heap.size w W0 := by rw [← hW0]; exact below_new w _
  have hz : VBox W0 w.heap.size ⟨0, 0, ⟨#[]⟩, false⟩ := by rw [← hW0]; exact blk_new w _
  have hR0 := hR.below hb0
  have hgw : g < w.heap.size := hR.lt
  have HRo := Lib.hid (Ro.of_below (gr := g) hb0)
  obtain ⟨hk0, hk1⟩ := qone_rng hl s hR.2.2.1
  have hone := qone_any hR0 hm
  have hv : qvalue l s = if (qone l s).2.2 = 0 then
    (if (qone l s).1 = 1 then (⟨1, (qnum l minI maxI (qone l s).2).1, ⟨#[]⟩, false⟩, (qnum l minI maxI (qone l s).2).2)
    else if (qone l s).1 = 2 then (⟨2, 0, (qtext l 0 256 (qone l s).2).1, false⟩, (qtext l 0 256 (qone l s).2).2)
    else if (qone l s).1 = 3 then (⟨3, 0, ⟨#[]⟩, (qone l (qone l s).2).1 == 1⟩, if 1 < (qone l (qone l s).2).1 then failW 31 (qone l (qone l s).2).2 else (qone l (qone l s).2).2)
    else (⟨(qone l s).1, 0, ⟨#[]⟩, false⟩, failW 31 (qone l s).2))
    else (⟨0, 0, ⟨#[]⟩, false⟩, (qone l s).2) := rfl
  generalize qone l s = r at *
  obtain ⟨kb, s1⟩ := r
  obtain ⟨p1, q1⟩ := s1
  simp only at hk0 hk1 hone hv
  have HONE := Lib.hid hone
  have hzl := hR.1
  have HZ := Lib.hid hz
  have HFL := Lib.hid (fun W s2 k hW => qfault_any (w0 := w0) (w := W) (g := g) (l := l) (s := s2) k hW)
  have hwk : IntKind.i64.wrap kb = kb := IntWalk.i64_in _ (by omega)
  have hwk' : wrap64 kb = kb := by unfold wrap64; omega
  clear hone hW0 hb0 hR hR0 hz
  generalize qvalue l s = R at *
  by_cases hq : q1 = 0
  · subst hq
    rw [if_pos rfl] at hv
    by_cases hk : kb = 1
    · subst hk
      rw [if_pos rfl] at hv
      have HN := Lib.hid (fun W hW => qnum_any (w0 := w0) (w := W) (g := g) (s := (p1, 0)) minI maxI hW hm)
      generalize qnum l minI maxI (p1, 0) = r at *
      obtain ⟨n, s2⟩ := r
      subst hv
      unfold minI maxI at HN
      clear hk0 hk1 hwk hwk'
      go_enter Tryz.func103, Tryz.ntmps103
      go_wp2_with fail
      rw [HW0.out]
      go_wp2_with fail
      refine HONE.out.mono ?_
      rintro e1 w1 ⟨rfl, hR1, hO1⟩
      have hz1 : VBox w1 w.heap.size ⟨0, 0, ⟨#[]⟩, false⟩ := Ro.blk hO1 HZ.out (by omega)
      obtain ⟨_, _, _, _, g4, _⟩ := hR1.cells
      have g4 : w1.cell? ⟨g, 2, none⟩ = some (.int .i64 0) := g4
      have hb1 := below_new w1 (.cells #[.int .i64 1, .int .i64 0, .string ⟨#[]⟩, .bool false] 67)
      have hz2 : VBox _ w.heap.size ⟨0, 0, ⟨#[]⟩, false⟩ := blk_below hz1 hb1
      have hx2 : VBox (w1.alloc (.cells #[.int .i64 1, .int .i64 0, .string ⟨#[]⟩, .bool false] 67)) w1.heap.size ⟨1, 0, ⟨#[]⟩, false⟩ := blk_new w1 _
      have hne : w1.heap.size ≠ g := by have := hR1.lt; omega
      have hne2 : w.heap.size ≠ w1.heap.size := by have := blk_lt' hz1; omega
      have hsz : w.heap.size ≤ w1.heap.size := by have := blk_lt' hz1; omega
      have HR2 := Lib.hid (hR1.below hb1)
      have HO2 := Lib.hid (HRo.out.trans (hO1.trans (Ro.of_below hb1)))
      have HZ2 := Lib.hid hz2
      have HX2 := Lib.hid hx2
      clear hR1 hO1 hz1 hb1 hz2 hx2
      go_wp2_with fail
      refine (HN.out _ HR2.out).mono ?_
      rintro e2 w2 ⟨rfl, hR3, hO3⟩
      have hz3 : VBox w2 w.heap.size ⟨0, 0, ⟨#[]⟩, false⟩ := Ro.blk hO3 HZ2.out (by omega)
      have hx3 : VBox w2 w1.heap.size ⟨1, 0, ⟨#[]⟩, false⟩ := Ro.blk hO3 HX2.out hne
      obtain ⟨y0, y1, y2, y3⟩ := hz3.cells
      obtain ⟨z0, z1, z2, z3⟩ := hz3.free
      obtain ⟨v0, v1, v2, v3⟩ := hx3.cells
      obtain ⟨_, u1, u2, u3⟩ := hx3.free
      have HR3 := Lib.hid (hR3.far (p := w1.heap.size) (i := 1) (by omega) hne (.int .i64 n))
      have HO3 := Lib.hid ((HO2.out.trans hO3).setNew (p := w1.heap.size) (i := 1) hsz (.int .i64 n))
      have hz4 : VBox (w2.setCell ⟨w1.heap.size, 1, none⟩ (.int .i64 n)) w.heap.size ⟨0, 0, ⟨#[]⟩, false⟩ := (Below.heap_setCell _ _ _ _ hne2).trans hz3
      have HZ4 := Lib.hid hz4
      clear hR3 hO3 hz3 hx3 hz4
      go_wp2_with fail
      have hP := qput4 HR3.out HO3.out (by omega) (Nat.le_refl _) (by omega) (.int .i64 1) (.int .i64 n) (.string ⟨#[]⟩) (.bool false)
      refine bodyPost_ret (results_cell_row rfl _ _ w.heap.size 67 #[.int .i64 1, .int .i64 n, .string ⟨#[]⟩, .bool false] (0, 0) _ rfl (HZ4.out.put ⟨1, n, ⟨#[]⟩, false⟩) Tryz.underlying67 rfl (by kernel_rfl)) rfl ?_
      exact ⟨rfl, hP.1, hP.2⟩
    · rw [if_neg hk] at hv
      have e1 : (kb == 1) = false := by simpa using hk
      by_cases hk2 : kb = 2
      · subst hk2
        rw [if_pos rfl] at hv
        have HY := Lib.hid (fun W hW => qtext_any (w0 := w0) (w := W) (g := g) (l := l) (s := (p1, 0)) 0 256 (by decide) (by decide) (by decide) hW hm)
        generalize qtext l 0 256 (p1, 0) = r at *
        obtain ⟨tx, s3⟩ := r
        simp only at hv
        subst hv
        clear hk0 hk1 hk e1 hwk hwk'
        go_enter Tryz.func103, Tryz.ntmps103
        go_wp2_with fail
        rw [HW0.out]
        go_wp2_with fail
        refine HONE.out.mono ?_
        rintro e1 w1 ⟨rfl, hR1, hO1⟩
        have hz1 : VBox w1 w.heap.size ⟨0, 0, ⟨#[]⟩, false⟩ := Ro.blk hO1 HZ.out (by omega)
        obtain ⟨_, _, _, _, g4, _⟩ := hR1.cells
        have g4 : w1.cell? ⟨g, 2, none⟩ = some (.int .i64 0) := g4
        have hb1 := below_new w1 (.cells #[.int .i64 2, .int .i64 0, .string ⟨#[]⟩, .bool false] 67)
        have hz2 : VBox _ w.heap.size ⟨0, 0, ⟨#[]⟩, false⟩ := blk_below hz1 hb1
        have hx2 : VBox (w1.alloc (.cells #[.int .i64 2, .int .i64 0, .string ⟨#[]⟩, .bool false] 67)) w1.heap.size ⟨2, 0, ⟨#[]⟩, false⟩ := blk_new w1 _
        have hne : w1.heap.size ≠ g := by have := hR1.lt; omega
        have hne2 : w.heap.size ≠ w1.heap.size := by have := blk_lt' hz1; omega
        have hsz : w.heap.size ≤ w1.heap.size := by have := blk_lt' hz1; omega
        have HR2 := Lib.hid (hR1.below hb1)
        have HO2 := Lib.hid (HRo.out.trans (hO1.trans (Ro.of_below hb1)))
        have HZ2 := Lib.hid hz2
        have HX2 := Lib.hid hx2
        clear hR1 hO1 hz1 hb1 hz2 hx2
        go_wp2_with fail
        refine (HY.out _ HR2.out).mono ?_
        rintro e2 w2 ⟨rfl, hR3, hO3⟩
        have hz3 : VBox w2 w.heap.size ⟨0, 0, ⟨#[]⟩, false⟩ := Ro.blk hO3 HZ2.out (by omega)
        have hx3 : VBox w2 w1.heap.size ⟨2, 0, ⟨#[]⟩, false⟩ := Ro.blk hO3 HX2.out hne
        obtain ⟨y0, y1, y2, y3⟩ := hz3.cells
        obtain ⟨z0, z1, z2, z3⟩ := hz3.free
        obtain ⟨v0, v1, v2, v3⟩ := hx3.cells
        obtain ⟨_, u1, u2, u3⟩ := hx3.free
        have HR3 := Lib.hid (hR3.far (p := w1.heap.size) (i := 2) (by omega) hne (.string tx))
        have HO3 := Lib.hid ((HO2.out.trans hO3).setNew (p := w1.heap.size) (i := 2) hsz (.string tx))
        have hz4 : VBox (w2.setCell ⟨w1.heap.size, 2, none⟩ (.string tx)) w.heap.size ⟨0, 0, ⟨#[]⟩, false⟩ := (Below.heap_setCell _ _ _ _ hne2).trans hz3
        have HZ4 := Lib.hid hz4
        clear hR3 hO3 hz3 hx3 hz4
        go_wp2_with fail
        have hP := qput4 HR3.out HO3.out (by omega) (Nat.le_refl _) (by omega) (.int .i64 2) (.int .i64 0) (.string tx) (.bool false)
        refine bodyPost_ret (results_cell_row rfl _ _ w.heap.size 67 #[.int .i64 2, .int .i64 0, .string tx, .bool false] (0, 0) _ rfl (HZ4.out.put ⟨2, 0, tx, false⟩) Tryz.underlying67 rfl (by kernel_rfl)) rfl ?_
        exact ⟨rfl, hP.1, hP.2⟩
      · rw [if_neg hk2] at hv
        have e2 : (kb == 2) = false := by simpa using hk2
        by_cases hk3 : kb = 3
        · subst hk3
          rw [if_pos rfl] at hv
          have HN := Lib.hid (fun W hW => qone_any (w0 := w0) (w := W) (g := g) (l := l) (s := (p1, 0)) hW hm)
          generalize qone l (p1, 0) = r at *
          obtain ⟨n, s2⟩ := r
          simp only at hv
          clear hk0 hk1 hk hk2 e1 e2 hwk hwk'
          by_cases hn : 1 < n
          · rw [if_pos hn] at hv
            subst hv
            have d1 : decide (1 < n) = true := decide_eq_true hn
            clear hn
            go_enter Tryz.func103, Tryz.ntmps103
            go_wp2_with fail
            rw [HW0.out]
            go_wp2_with fail
            refine HONE.out.mono ?_
            rintro e1 w1 ⟨rfl, hR1, hO1⟩
            have hz1 : VBox w1 w.heap.size ⟨0, 0, ⟨#[]⟩, false⟩ := Ro.blk hO1 HZ.out (by omega)
            obtain ⟨_, _, _, _, g4, _⟩ := hR1.cells
            have g4 : w1.cell? ⟨g, 2, none⟩ = some (.int .i64 0) := g4
            have hb1 := below_new w1 (.cells #[.int .i64 3, .int .i64 0, .string ⟨#[]⟩, .bool false] 67)
            have hz2 : VBox _ w.heap.size ⟨0, 0, ⟨#[]⟩, false⟩ := blk_below hz1 hb1
            have hx2 : VBox (w1.alloc (.cells #[.int .i64 3, .int .i64 0, .string ⟨#[]⟩, .bool false] 67)) w1.heap.size ⟨3, 0, ⟨#[]⟩, false⟩ := blk_new w1 _
            have hne : w1.heap.size ≠ g := by have := hR1.lt; omega
            have hne2 : w.heap.size ≠ w1.heap.size := by have := blk_lt' hz1; omega
            have hsz : w.heap.size ≤ w1.heap.size := by have := blk_lt' hz1; omega
            have HR2 := Lib.hid (hR1.below hb1)
            have HO2 := Lib.hid (HRo.out.trans (hO1.trans (Ro.of_below hb1)))
            have HZ2 := Lib.hid hz2
            have HX2 := Lib.hid hx2
            clear hR1 hO1 hz1 hb1 hz2 hx2
            go_wp2_with fail
            refine (HN.out _ HR2.out).mono ?_
            rintro e2 w2a ⟨rfl, hR3a, hO3a⟩
            have HR3a := Lib.hid hR3a
            have HO3a := Lib.hid hO3a
            clear hR3a hO3a
            go_wp2_with fail
            refine (HFL.out _ _ 31 HR3a.out).mono ?_
            rintro e3 w2 ⟨rfl, hR3, hO3b⟩
            have hO3 := HO3a.out.trans hO3b
            have hz3 : VBox w2 w.heap.size ⟨0, 0, ⟨#[]⟩, false⟩ := Ro.blk hO3 HZ2.out (by omega)
            have hx3 : VBox w2 w1.heap.size ⟨3, 0, ⟨#[]⟩, false⟩ := Ro.blk hO3 HX2.out hne
            obtain ⟨y0, y1, y2, y3⟩ := hz3.cells
            obtain ⟨z0, z1, z2, z3⟩ := hz3.free
            obtain ⟨v0, v1, v2, v3⟩ := hx3.cells
            obtain ⟨_, u1, u2, u3⟩ := hx3.free
            have HR3 := Lib.hid (hR3.far (p := w1.heap.size) (i := 3) (by omega) hne (.bool (n == 1)))
            have HO3 := Lib.hid ((HO2.out.trans hO3).setNew (p := w1.heap.size) (i := 3) hsz (.bool (n == 1)))
            have hz4 : VBox (w2.setCell ⟨w1.heap.size, 3, none⟩ (.bool (n == 1))) w.heap.size ⟨0, 0, ⟨#[]⟩, false⟩ := (Below.heap_setCell _ _ _ _ hne2).trans hz3
            have HZ4 := Lib.hid hz4
            clear hR3 hO3 hz3 hx3 hz4
            go_wp2_with fail
            have hP := qput4 HR3.out HO3.out (by omega) (Nat.le_refl _) (by omega) (.int .i64 3) (.int .i64 0) (.string ⟨#[]⟩) (.bool (n == 1))
            refine bodyPost_ret (results_cell_row rfl _ _ w.heap.size 67 #[.int .i64 3, .int .i64 0, .string ⟨#[]⟩, .bool (n == 1)] (0, 0) _ rfl (HZ4.out.put ⟨3, 0, ⟨#[]⟩, (n == 1)⟩) Tryz.underlying67 rfl (by kernel_rfl)) rfl ?_
            exact ⟨rfl, hP.1, hP.2⟩
          · rw [if_neg hn] at hv
            subst hv
            have d1 : decide (1 < n) = false := decide_eq_false hn
            clear hn
            go_enter Tryz.func103, Tryz.ntmps103
            go_wp2_with fail
            rw [HW0.out]
            go_wp2_with fail
            refine HONE.out.mono ?_
            rintro e1 w1 ⟨rfl, hR1, hO1⟩
            have hz1 : VBox w1 w.heap.size ⟨0, 0, ⟨#[]⟩, false⟩ := Ro.blk hO1 HZ.out (by omega)
            obtain ⟨_, _, _, _, g4, _⟩ := hR1.cells
            have g4 : w1.cell? ⟨g, 2, none⟩ = some (.int .i64 0) := g4
            have hb1 := below_new w1 (.cells #[.int .i64 3, .int .i64 0, .string ⟨#[]⟩, .bool false] 67)
            have hz2 : VBox _ w.heap.size ⟨0, 0, ⟨#[]⟩, false⟩ := blk_below hz1 hb1
            have hx2 : VBox (w1.alloc (.cells #[.int .i64 3, .int .i64 0, .string ⟨#[]⟩, .bool false] 67)) w1.heap.size ⟨3, 0, ⟨#[]⟩, false⟩ := blk_new w1 _
            have hne : w1.heap.size ≠ g := by have := hR1.lt; omega
            have hne2 : w.heap.size ≠ w1.heap.size := by have := blk_lt' hz1; omega
            have hsz : w.heap.size ≤ w1.heap.size := by have := blk_lt' hz1; omega
            have HR2 := Lib.hid (hR1.below hb1)
            have HO2 := Lib.hid (HRo.out.trans (hO1.trans (Ro.of_below hb1)))
            have HZ2 := Lib.hid hz2
            have HX2 := Lib.hid hx2
            clear hR1 hO1 hz1 hb1 hz2 hx2
            go_wp2_with fail
            refine (HN.out _ HR2.out).mono ?_
            rintro e2 w2 ⟨rfl, hR3, hO3⟩
            have hz3 : VBox w2 w.heap.size ⟨0, 0, ⟨#[]⟩, false⟩ := Ro.blk hO3 HZ2.out (by omega)
            have hx3 : VBox w2 w1.heap.size ⟨3, 0, ⟨#[]⟩, false⟩ := Ro.blk hO3 HX2.out hne
            obtain ⟨y0, y1, y2, y3⟩ := hz3.cells
            obtain ⟨z0, z1, z2, z3⟩ := hz3.free
            obtain ⟨v0, v1, v2, v3⟩ := hx3.cells
            obtain ⟨_, u1, u2, u3⟩ := hx3.free
            have HR3 := Lib.hid (hR3.far (p := w1.heap.size) (i := 3) (by omega) hne (.bool (n == 1)))
            have HO3 := Lib.hid ((HO2.out.trans hO3).setNew (p := w1.heap.size) (i := 3) hsz (.bool (n == 1)))
            have hz4 : VBox (w2.setCell ⟨w1.heap.size, 3, none⟩ (.bool (n == 1))) w.heap.size ⟨0, 0, ⟨#[]⟩, false⟩ := (Below.heap_setCell _ _ _ _ hne2).trans hz3
            have HZ4 := Lib.hid hz4
            clear hR3 hO3 hz3 hx3 hz4
            go_wp2_with fail
            have hP := qput4 HR3.out HO3.out (by omega) (Nat.le_refl _) (by omega) (.int .i64 3) (.int .i64 0) (.string ⟨#[]⟩) (.bool (n == 1))
            refine bodyPost_ret (results_cell_row rfl _ _ w.heap.size 67 #[.int .i64 3, .int .i64 0, .string ⟨#[]⟩, .bool (n == 1)] (0, 0) _ rfl (HZ4.out.put ⟨3, 0, ⟨#[]⟩, (n == 1)⟩) Tryz.underlying67 rfl (by kernel_rfl)) rfl ?_
            exact ⟨rfl, hP.1, hP.2⟩
        · rw [if_neg hk3] at hv
          have e3 : (kb == 3) = false := by simpa using hk3
          subst hv
          clear hk hk2 hk3
          go_enter Tryz.func103, Tryz.ntmps103
          go_wp2_with fail
          rw [HW0.out]
          go_wp2_with fail
          refine HONE.out.mono ?_
          rintro e1 w1 ⟨rfl, hR1, hO1⟩
          have hz1 : VBox w1 w.heap.size ⟨0, 0, ⟨#[]⟩, false⟩ := Ro.blk hO1 HZ.out (by omega)
          obtain ⟨_, _, _, _, g4, _⟩ := hR1.cells
          have g4 : w1.cell? ⟨g, 2, none⟩ = some (.int .i64 0) := g4
          have hb1 := below_new w1 (.cells #[.int .i64 kb, .int .i64 0, .string ⟨#[]⟩, .bool false] 67)
          have hz2 : VBox _ w.heap.size ⟨0, 0, ⟨#[]⟩, false⟩ := blk_below hz1 hb1
          have hx2 : VBox (w1.alloc (.cells #[.int .i64 kb, .int .i64 0, .string ⟨#[]⟩, .bool false] 67)) w1.heap.size ⟨kb, 0, ⟨#[]⟩, false⟩ := blk_new w1 _
          have hne : w1.heap.size ≠ g := by have := hR1.lt; omega
          have hne2 : w.heap.size ≠ w1.heap.size := by have := blk_lt' hz1; omega
          have hsz : w.heap.size ≤ w1.heap.size := by have := blk_lt' hz1; omega
          have HR2 := Lib.hid (hR1.below hb1)
          have HO2 := Lib.hid (HRo.out.trans (hO1.trans (Ro.of_below hb1)))
          have HZ2 := Lib.hid hz2
          have HX2 := Lib.hid hx2
          clear hR1 hO1 hz1 hb1 hz2 hx2
          go_wp2_with fail
          refine (HFL.out _ _ 31 HR2.out).mono ?_
          rintro e3 w2 ⟨rfl, hR3, hO3⟩
          have hz3 : VBox w2 w.heap.size ⟨0, 0, ⟨#[]⟩, false⟩ := Ro.blk hO3 HZ2.out (by omega)
          have hx3 : VBox w2 w1.heap.size ⟨kb, 0, ⟨#[]⟩, false⟩ := Ro.blk hO3 HX2.out hne
          obtain ⟨y0, y1, y2, y3⟩ := hz3.cells
          obtain ⟨z0, z1, z2, z3⟩ := hz3.free
          obtain ⟨v0, v1, v2, v3⟩ := hx3.cells
          obtain ⟨_, u1, u2, u3⟩ := hx3.free
          have HR3 := Lib.hid hR3
          have HO3 := Lib.hid (HO2.out.trans hO3)
          have hz4 := hz3
          have HZ4 := Lib.hid hz4
          clear hR3 hO3 hz3 hx3 hz4
          go_wp2_with fail
          have hP := qput4 HR3.out HO3.out (by omega) (Nat.le_refl _) (by omega) (.int .i64 kb) (.int .i64 0) (.string ⟨#[]⟩) (.bool false)
          refine bodyPost_ret (results_cell_row rfl _ _ w.heap.size 67 #[.int .i64 kb, .int .i64 0, .string ⟨#[]⟩, .bool false] (0, 0) _ rfl (HZ4.out.put ⟨kb, 0, ⟨#[]⟩, false⟩) Tryz.underlying67 rfl (by kernel_rfl)) rfl ?_
          exact ⟨rfl, hP.1, hP.2⟩
  · rw [if_neg hq] at hv
    subst hv
    have d1 : (q1 != 0) = true := by simpa using hq
    clear hq
    go_enter Tryz.func103, Tryz.ntmps103
    go_wp2_with fail
    rw [HW0.out]
    go_wp2_with fail
    refine HONE.out.mono ?_
    rintro e1 w1 ⟨rfl, hR1, hO1⟩
    have hz1 : VBox w1 w.heap.size ⟨0, 0, ⟨#[]⟩, false⟩ := Ro.blk hO1 HZ.out (by omega)
    obtain ⟨_, _, _, _, g4, _⟩ := hR1.cells
    have g4 : w1.cell? ⟨g, 2, none⟩ = some (.int .i64 q1) := g4
    obtain ⟨y0, y1, y2, y3⟩ := hz1.cells
    obtain ⟨z0, z1, z2, z3⟩ := hz1.free
    have HR3 := Lib.hid hR1
    have HO3 := Lib.hid (HRo.out.trans hO1)
    have HZ4 := Lib.hid hz1
    clear hR1 hO1 hz1
    go_wp2_with fail
    have hP := qput4 HR3.out HO3.out (by omega) (Nat.le_refl _) (by omega) (.int .i64 0) (.int .i64 0) (.string ⟨#[]⟩) (.bool false)
    refine bodyPost_ret (results_cell_row rfl _ _ w.heap.size 67 #[.int .i64 0, .int .i64 0, .string ⟨#[]⟩, .bool false] (0, 0) _ rfl (HZ4.out.put ⟨0, 0, ⟨#[]⟩, false⟩) Tryz.underlying67 rfl (by kernel_rfl)) rfl ?_
    exact ⟨rfl, hP.1, hP.2⟩
end Go.Proofs.YtcfgmkmllcfjjaaGreatDoor
