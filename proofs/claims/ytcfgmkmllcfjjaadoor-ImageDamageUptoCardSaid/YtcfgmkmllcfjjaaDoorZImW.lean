import Derived.Test.YtcfgmkmllcfjjaaDoorZImV
set_option linter.unusedVariables false
set_option linter.unusedSimpArgs false
namespace Go.Proofs.YtcfgmkmllcfjjaaDoor
open Go.RowKit Go.Proofs.YtcfgmkmllcfjjaaDoorW.PrintWords Go.Proofs.YtcfgmkmllcfjjaaDoorW.PrintMore PImageForm
def minI : Int := -9223372036854775808
def maxI : Int := 9223372036854775807
def wvalue (l : List Int) (s : Ws) : S66 × Ws :=
  if (wone l 1 3 s).2.2 = 0 then
    (if (wone l 1 3 s).1 = 1 then (⟨1, (wnum l minI maxI (wone l 1 3 s).2).1, ⟨#[]⟩, false⟩, (wnum l minI maxI (wone l 1 3 s).2).2)
    else if (wone l 1 3 s).1 = 2 then (⟨2, 0, (wbytes l (wnum l 0 256 (wone l 1 3 s).2).1.toNat (wnum l 0 256 (wone l 1 3 s).2).2).1, false⟩, (wbytes l (wnum l 0 256 (wone l 1 3 s).2).1.toNat (wnum l 0 256 (wone l 1 3 s).2).2).2)
    else (⟨(wone l 1 3 s).1, 0, ⟨#[]⟩, (wone l 0 1 (wone l 1 3 s).2).1 == 1⟩, (wone l 0 1 (wone l 1 3 s).2).2))
  else (⟨0, 0, ⟨#[]⟩, false⟩, (wone l 1 3 s).2)
theorem wnum_rng {l : List Int} {lo hi : Int} (h0 : lo ≤ 0) (h1 : 0 ≤ hi) (s : Ws) : lo ≤ (wnum l lo hi s).1 ∧ (wnum l lo hi s).1 ≤ hi := by
  unfold wnum
  split
  · split
    · split
      · rename_i h; exact h
      · exact ⟨h0, h1⟩
    · exact ⟨h0, h1⟩
  · exact ⟨h0, h1⟩
theorem wone_rng {l : List Int} (hl : Bytes l) (lo hi : Int) (s : Ws) : 0 ≤ (wone l lo hi s).1 ∧ (wone l lo hi s).1 < 256 := by
  unfold wone
  split
  · split
    · rename_i h
      have hlt : s.1 < l.length := by omega
      show 0 ≤ (l.drop s.1).headD 0 ∧ (l.drop s.1).headD 0 < 256
      rw [List.drop_eq_getElem_cons hlt]
      exact hl _ (List.getElem_mem hlt)
    · exact ⟨show (0 : Int) ≤ 0 by decide, show (0 : Int) < 256 by decide⟩
  · exact ⟨show (0 : Int) ≤ 0 by decide, show (0 : Int) < 256 by decide⟩
def VBox (w : World) (b : Nat) (x : S66) : Prop := w.heap[b]? = some (.cells #[.int .i64 x.f0, .int .i64 x.f1, .string x.f2, .bool x.f3] 66 (0, 0))
theorem VBox.cells {w : World} {b : Nat} {x : S66} (h : VBox w b x) : w.cell? ⟨b, 0, none⟩ = some (.int .i64 x.f0) ∧ w.cell? ⟨b, 1, none⟩ = some (.int .i64 x.f1) ∧ w.cell? ⟨b, 2, none⟩ = some (.string x.f2) ∧ w.cell? ⟨b, 3, none⟩ = some (.bool x.f3) :=
  ⟨(blk_cell h 0).trans rfl, (blk_cell h 1).trans rfl, (blk_cell h 2).trans rfl, (blk_cell h 3).trans rfl⟩
theorem VBox.free {w : World} {b : Nat} {x : S66} (h : VBox w b x) : w.frozen? ⟨b, 0, none⟩ = false ∧ w.frozen? ⟨b, 1, none⟩ = false ∧ w.frozen? ⟨b, 2, none⟩ = false ∧ w.frozen? ⟨b, 3, none⟩ = false :=
  ⟨blk_frozen h 0, blk_frozen h 1, blk_frozen h 2, blk_frozen h 3⟩
theorem VBox.put {w : World} {b : Nat} {x : S66} (h : VBox w b x) (y : S66) : VBox ((((w.setCell ⟨b, 0, none⟩ (.int .i64 y.f0)).setCell ⟨b, 1, none⟩ (.int .i64 y.f1)).setCell ⟨b, 2, none⟩ (.string y.f2)).setCell ⟨b, 3, none⟩ (.bool y.f3)) b y :=
  (blk_set (blk_set (blk_set (blk_set h 0 _) 1 _) 2 _) 3 _).trans rfl
def VPost (w0 w : World) (g : Nat) (l : List Int) (x : S66) (s : Ws) (e : Ending) (w' : World) : Prop := WPost w0 w g l (.agg #[.int .i64 x.f0, .int .i64 x.f1, .string x.f2, .bool x.f3]) s e w'
theorem Ro.setNew {gr p i : Nat} {w w1 : World} (h : Ro gr w w1) (hp : w.heap.size ≤ p) (v : Value) : Ro gr w (w1.setCell ⟨p, i, none⟩ v) :=
  ⟨h.os, h.tape, h.output, Nat.le_trans h.size (by simp [World.setCell]), fun k hk hn => (Below.heap_setCell _ _ _ _ (fun e => by have e : k = p := e; omega)).trans (h.block k hk hn)⟩
theorem put4 {w0 w w' : World} {g p : Nat} {l : List Int} {s : Ws} (hR : WRAt w0 w' g l s) (hO : Ro g w w') (h0 : w0.heap.size ≤ w.heap.size) (hp : w.heap.size ≤ p) (hn : p ≠ g) (a b c d : Value) :
    WRAt w0 ((((w'.setCell ⟨p, 0, none⟩ a).setCell ⟨p, 1, none⟩ b).setCell ⟨p, 2, none⟩ c).setCell ⟨p, 3, none⟩ d) g l s ∧ Ro g w ((((w'.setCell ⟨p, 0, none⟩ a).setCell ⟨p, 1, none⟩ b).setCell ⟨p, 2, none⟩ c).setCell ⟨p, 3, none⟩ d) :=
  ⟨(((hR.far (by omega) hn a).far (by omega) hn b).far (by omega) hn c).far (by omega) hn d, (((hO.setNew hp a).setNew hp b).setNew hp c).setNew hp d⟩
set_option maxRecDepth 100000 in
set_option maxHeartbeats 4000000 in
theorem wvalue_any {w0 w : World} {g : Nat} {l : List Int} {s : Ws} (hR : WRAt w0 w g l s) (hl : Bytes l) (hm : l.length ≤ 4611686018427387904) :
    Calls Tryd.prog 70 #[.pointer (some ⟨g, 0, none⟩)] w (VPost w0 w g l (wvalue l s).1 (wvalue l s).2) := by
  generalize hW0 : w.alloc (.cells #[.int .i64 0, .int .i64 0, .string ⟨#[]⟩, .bool false] 66) = W0
  have HW0 := Lib.hid hW0
  have hb0 : Below w.heap.size w W0 := by rw [← hW0]; exact below_new w _
  have hz : VBox W0 w.heap.size ⟨0, 0, ⟨#[]⟩, false⟩ := by rw [← hW0]; exact blk_new w _
  have hR0 := hR.below hb0
  have hgw : g < w.heap.size := hR.lt
  have HRo := Lib.hid (Ro.of_below (gr := g) hb0)
  obtain ⟨hk0, hk1⟩ := wone_rng hl 1 3 s
  have hone := wone_any 1 3 hR0 hl hm
  have hv : wvalue l s = if (wone l 1 3 s).2.2 = 0 then
    (if (wone l 1 3 s).1 = 1 then (⟨1, (wnum l minI maxI (wone l 1 3 s).2).1, ⟨#[]⟩, false⟩, (wnum l minI maxI (wone l 1 3 s).2).2)
    else if (wone l 1 3 s).1 = 2 then (⟨2, 0, (wbytes l (wnum l 0 256 (wone l 1 3 s).2).1.toNat (wnum l 0 256 (wone l 1 3 s).2).2).1, false⟩, (wbytes l (wnum l 0 256 (wone l 1 3 s).2).1.toNat (wnum l 0 256 (wone l 1 3 s).2).2).2)
    else (⟨(wone l 1 3 s).1, 0, ⟨#[]⟩, (wone l 0 1 (wone l 1 3 s).2).1 == 1⟩, (wone l 0 1 (wone l 1 3 s).2).2))
    else (⟨0, 0, ⟨#[]⟩, false⟩, (wone l 1 3 s).2) := rfl
  generalize wone l 1 3 s = r at *
  obtain ⟨kb, s1⟩ := r
  obtain ⟨p1, q1⟩ := s1
  simp only at hk0 hk1 hone hv
  have HONE := Lib.hid hone
  have hzl := hR.1
  have HZ := Lib.hid hz
  clear hone hW0 hb0 hR hR0 hz
  generalize wvalue l s = R at *
  by_cases hq : q1 = 0
  · subst hq
    rw [if_pos rfl] at hv
    by_cases hk : kb = 1
    · subst hk
      rw [if_pos rfl] at hv
      have HN := Lib.hid (fun W hW => wnum_any (w0 := w0) (w := W) (g := g) (s := (p1, 0)) minI maxI hW hl hm)
      generalize wnum l minI maxI (p1, 0) = r at *
      obtain ⟨n, s2⟩ := r
      subst hv
      unfold minI maxI at HN
      clear hk0 hk1
      go_enter Tryd.func70, Tryd.ntmps70
      go_wp2_with fail
      rw [HW0.out]
      go_wp2_with fail
      refine HONE.out.mono ?_
      rintro e1 w1 ⟨rfl, hR1, hO1⟩
      have hz1 : VBox w1 w.heap.size ⟨0, 0, ⟨#[]⟩, false⟩ := Ro.blk hO1 HZ.out (by omega)
      have hb1 := below_new w1 (.cells #[.int .i64 1, .int .i64 0, .string ⟨#[]⟩, .bool false] 66)
      have hz2 : VBox _ w.heap.size ⟨0, 0, ⟨#[]⟩, false⟩ := blk_below hz1 hb1
      have hx2 : VBox (w1.alloc (.cells #[.int .i64 1, .int .i64 0, .string ⟨#[]⟩, .bool false] 66)) w1.heap.size ⟨1, 0, ⟨#[]⟩, false⟩ := blk_new w1 _
      have hne : w1.heap.size ≠ g := by have := hR1.lt; omega
      have hne2 : w.heap.size ≠ w1.heap.size := by have := blk_lt' hz1; omega
      have hsz : w.heap.size ≤ w1.heap.size := by have := blk_lt' hz1; omega
      obtain ⟨_, _, _, _, g5, _⟩ := (hR1.below hb1).cells
      have HR2 := Lib.hid (hR1.below hb1)
      have HO2 := Lib.hid (HRo.out.trans (hO1.trans (Ro.of_below hb1)))
      have g5 : (w1.alloc (.cells #[.int .i64 1, .int .i64 0, .string ⟨#[]⟩, .bool false] 66)).cell? ⟨g, 2, none⟩ = some (.int .i64 0) := g5
      have HZ2 := Lib.hid hz2
      have HX2 := Lib.hid hx2
      clear hR1 hO1 hz1 hb1 hz2 hx2
      go_wp2_with fail
      refine (HN.out _ HR2.out).mono ?_
      rintro e2 w2 ⟨rfl, hR3, hO3⟩
      have hz3 : VBox w2 w.heap.size ⟨0, 0, ⟨#[]⟩, false⟩ := Ro.blk hO3 HZ2.out (by omega)
      have hx3 : VBox w2 w1.heap.size ⟨1, 0, ⟨#[]⟩, false⟩ := Ro.blk hO3 HX2.out hne
      obtain ⟨y0, y1, y2, y3⟩ := hz3.cells
      obtain ⟨z0, z1, z2, z3⟩ := hz3.free
      obtain ⟨v0, v1, v2, v3⟩ := hx3.cells
      obtain ⟨_, u1, u2, u3⟩ := hx3.free
      have HR3 := Lib.hid (hR3.far (p := w1.heap.size) (i := 1) (by omega) hne (.int .i64 n))
      have HO3 := Lib.hid ((HO2.out.trans hO3).setNew (p := w1.heap.size) (i := 1) hsz (.int .i64 n))
      have hz4 : VBox (w2.setCell ⟨w1.heap.size, 1, none⟩ (.int .i64 n)) w.heap.size ⟨0, 0, ⟨#[]⟩, false⟩ := (Below.heap_setCell _ _ _ _ hne2).trans hz3
      have HZ4 := Lib.hid hz4
      clear hR3 hO3 hz3 hx3 hz4
      go_wp2_with fail
      have hP := put4 HR3.out HO3.out (by omega) (Nat.le_refl _) (by omega) (.int .i64 1) (.int .i64 n) (.string ⟨#[]⟩) (.bool false)
      refine bodyPost_ret (results_cell_row rfl _ _ w.heap.size 66 #[.int .i64 1, .int .i64 n, .string ⟨#[]⟩, .bool false] (0, 0) _ rfl (HZ4.out.put ⟨1, n, ⟨#[]⟩, false⟩) Tryd.underlying66 rfl (by kernel_rfl)) rfl ?_
      exact ⟨rfl, hP.1, hP.2⟩
    · rw [if_neg hk] at hv
      have e1 : (kb == 1) = false := by simpa using hk
      by_cases hk2 : kb = 2
      · subst hk2
        rw [if_pos rfl] at hv
        have HN := Lib.hid (fun W hW => wnum_any (w0 := w0) (w := W) (g := g) (s := (p1, 0)) 0 256 hW hl hm)
        obtain ⟨hn0, hn1⟩ := wnum_rng (l := l) (lo := 0) (hi := 256) (by decide) (by decide) (p1, 0)
        generalize wnum l 0 256 (p1, 0) = r at *
        obtain ⟨n, s2⟩ := r
        simp only at hn0 hn1 hv HN
        obtain ⟨n, rfl⟩ := Int.eq_ofNat_of_zero_le hn0
        rw [Int.toNat_natCast] at hv
        have HY := Lib.hid (fun W hW => wbytes_any (w0 := w0) (w := W) (g := g) (l := l) (s := s2) n hW (by omega) hm)
        generalize wbytes l n s2 = r at *
        obtain ⟨tx, s3⟩ := r
        simp only at hv
        subst hv
        clear hk0 hk1 hk e1
        go_enter Tryd.func70, Tryd.ntmps70
        go_wp2_with fail
        rw [HW0.out]
        go_wp2_with fail
        refine HONE.out.mono ?_
        rintro e1 w1 ⟨rfl, hR1, hO1⟩
        have hz1 : VBox w1 w.heap.size ⟨0, 0, ⟨#[]⟩, false⟩ := Ro.blk hO1 HZ.out (by omega)
        have hb1 := below_new w1 (.cells #[.int .i64 2, .int .i64 0, .string ⟨#[]⟩, .bool false] 66)
        have hz2 : VBox _ w.heap.size ⟨0, 0, ⟨#[]⟩, false⟩ := blk_below hz1 hb1
        have hx2 : VBox (w1.alloc (.cells #[.int .i64 2, .int .i64 0, .string ⟨#[]⟩, .bool false] 66)) w1.heap.size ⟨2, 0, ⟨#[]⟩, false⟩ := blk_new w1 _
        have hne : w1.heap.size ≠ g := by have := hR1.lt; omega
        have hne2 : w.heap.size ≠ w1.heap.size := by have := blk_lt' hz1; omega
        have hsz : w.heap.size ≤ w1.heap.size := by have := blk_lt' hz1; omega
        obtain ⟨_, _, _, _, g5, _⟩ := (hR1.below hb1).cells
        have HR2 := Lib.hid (hR1.below hb1)
        have HO2 := Lib.hid (HRo.out.trans (hO1.trans (Ro.of_below hb1)))
        have g5 : (w1.alloc (.cells #[.int .i64 2, .int .i64 0, .string ⟨#[]⟩, .bool false] 66)).cell? ⟨g, 2, none⟩ = some (.int .i64 0) := g5
        have HZ2 := Lib.hid hz2
        have HX2 := Lib.hid hx2
        clear hR1 hO1 hz1 hb1 hz2 hx2
        go_wp2_with fail
        refine (HN.out _ HR2.out).mono ?_
        rintro e2 wm ⟨rfl, hRm, hOm⟩
        have HRm := Lib.hid hRm
        have HOm := Lib.hid hOm
        clear hRm hOm
        go_wp2_with fail
        refine (HY.out _ HRm.out).mono ?_
        rintro e2 w2 ⟨rfl, hR3, hO3'⟩
        have hO3 := HOm.out.trans hO3'
        have hz3 : VBox w2 w.heap.size ⟨0, 0, ⟨#[]⟩, false⟩ := Ro.blk hO3 HZ2.out (by omega)
        have hx3 : VBox w2 w1.heap.size ⟨2, 0, ⟨#[]⟩, false⟩ := Ro.blk hO3 HX2.out hne
        obtain ⟨y0, y1, y2, y3⟩ := hz3.cells
        obtain ⟨z0, z1, z2, z3⟩ := hz3.free
        obtain ⟨v0, v1, v2, v3⟩ := hx3.cells
        obtain ⟨_, u1, u2, u3⟩ := hx3.free
        have HR3 := Lib.hid (hR3.far (p := w1.heap.size) (i := 2) (by omega) hne (.string tx))
        have HO3 := Lib.hid ((HO2.out.trans hO3).setNew (p := w1.heap.size) (i := 2) hsz (.string tx))
        have hz4 : VBox (w2.setCell ⟨w1.heap.size, 2, none⟩ (.string tx)) w.heap.size ⟨0, 0, ⟨#[]⟩, false⟩ := (Below.heap_setCell _ _ _ _ hne2).trans hz3
        have HZ4 := Lib.hid hz4
        clear hR3 hO3 hz3 hx3 hz4
        go_wp2_with fail
        have hP := put4 HR3.out HO3.out (by omega) (Nat.le_refl _) (by omega) (.int .i64 2) (.int .i64 0) (.string tx) (.bool false)
        refine bodyPost_ret (results_cell_row rfl _ _ w.heap.size 66 #[.int .i64 2, .int .i64 0, .string tx, .bool false] (0, 0) _ rfl (HZ4.out.put ⟨2, 0, tx, false⟩) Tryd.underlying66 rfl (by kernel_rfl)) rfl ?_
        exact ⟨rfl, hP.1, hP.2⟩
      · rw [if_neg hk2] at hv
        have e2 : (kb == 2) = false := by simpa using hk2
        have HN := Lib.hid (fun W hW => wone_any (w0 := w0) (w := W) (g := g) (s := (p1, 0)) 0 1 hW hl hm)
        generalize wone l 0 1 (p1, 0) = r at *
        obtain ⟨n, s2⟩ := r
        simp only at hv
        subst hv
        clear hk hk2
        go_enter Tryd.func70, Tryd.ntmps70
        go_wp2_with fail
        rw [HW0.out]
        go_wp2_with fail
        refine HONE.out.mono ?_
        rintro e1 w1 ⟨rfl, hR1, hO1⟩
        have hz1 : VBox w1 w.heap.size ⟨0, 0, ⟨#[]⟩, false⟩ := Ro.blk hO1 HZ.out (by omega)
        have hb1 := below_new w1 (.cells #[.int .i64 kb, .int .i64 0, .string ⟨#[]⟩, .bool false] 66)
        have hz2 : VBox _ w.heap.size ⟨0, 0, ⟨#[]⟩, false⟩ := blk_below hz1 hb1
        have hx2 : VBox (w1.alloc (.cells #[.int .i64 kb, .int .i64 0, .string ⟨#[]⟩, .bool false] 66)) w1.heap.size ⟨kb, 0, ⟨#[]⟩, false⟩ := blk_new w1 _
        have hne : w1.heap.size ≠ g := by have := hR1.lt; omega
        have hne2 : w.heap.size ≠ w1.heap.size := by have := blk_lt' hz1; omega
        have hsz : w.heap.size ≤ w1.heap.size := by have := blk_lt' hz1; omega
        obtain ⟨_, _, _, _, g5, _⟩ := (hR1.below hb1).cells
        have HR2 := Lib.hid (hR1.below hb1)
        have HO2 := Lib.hid (HRo.out.trans (hO1.trans (Ro.of_below hb1)))
        have g5 : (w1.alloc (.cells #[.int .i64 kb, .int .i64 0, .string ⟨#[]⟩, .bool false] 66)).cell? ⟨g, 2, none⟩ = some (.int .i64 0) := g5
        have HZ2 := Lib.hid hz2
        have HX2 := Lib.hid hx2
        clear hR1 hO1 hz1 hb1 hz2 hx2
        go_wp2_with fail
        refine (HN.out _ HR2.out).mono ?_
        rintro e2 w2 ⟨rfl, hR3, hO3⟩
        have hz3 : VBox w2 w.heap.size ⟨0, 0, ⟨#[]⟩, false⟩ := Ro.blk hO3 HZ2.out (by omega)
        have hx3 : VBox w2 w1.heap.size ⟨kb, 0, ⟨#[]⟩, false⟩ := Ro.blk hO3 HX2.out hne
        obtain ⟨y0, y1, y2, y3⟩ := hz3.cells
        obtain ⟨z0, z1, z2, z3⟩ := hz3.free
        obtain ⟨v0, v1, v2, v3⟩ := hx3.cells
        obtain ⟨_, u1, u2, u3⟩ := hx3.free
        have HR3 := Lib.hid (hR3.far (p := w1.heap.size) (i := 3) (by omega) hne (.bool (n == 1)))
        have HO3 := Lib.hid ((HO2.out.trans hO3).setNew (p := w1.heap.size) (i := 3) hsz (.bool (n == 1)))
        have hz4 : VBox (w2.setCell ⟨w1.heap.size, 3, none⟩ (.bool (n == 1))) w.heap.size ⟨0, 0, ⟨#[]⟩, false⟩ := (Below.heap_setCell _ _ _ _ hne2).trans hz3
        have HZ4 := Lib.hid hz4
        clear hR3 hO3 hz3 hx3 hz4
        go_wp2_with fail
        have hP := put4 HR3.out HO3.out (by omega) (Nat.le_refl _) (by omega) (.int .i64 kb) (.int .i64 0) (.string ⟨#[]⟩) (.bool (n == 1))
        refine bodyPost_ret (results_cell_row rfl _ _ w.heap.size 66 #[.int .i64 kb, .int .i64 0, .string ⟨#[]⟩, .bool (n == 1)] (0, 0) _ rfl (HZ4.out.put ⟨kb, 0, ⟨#[]⟩, (n == 1)⟩) Tryd.underlying66 rfl (by kernel_rfl)) rfl ?_
        exact ⟨rfl, hP.1, hP.2⟩
  · rw [if_neg hq] at hv
    subst hv
    have d1 : (q1 != 0) = true := by simpa using hq
    clear hq
    go_enter Tryd.func70, Tryd.ntmps70
    go_wp2_with fail
    rw [HW0.out]
    go_wp2_with fail
    refine HONE.out.mono ?_
    rintro e1 w1 ⟨rfl, hR1, hO1⟩
    have hz1 : VBox w1 w.heap.size ⟨0, 0, ⟨#[]⟩, false⟩ := Ro.blk hO1 HZ.out (by omega)
    have hb1 := below_new w1 (.cells #[.int .i64 kb, .int .i64 0, .string ⟨#[]⟩, .bool false] 66)
    have hz2 : VBox _ w.heap.size ⟨0, 0, ⟨#[]⟩, false⟩ := blk_below hz1 hb1
    have hx2 : VBox (w1.alloc (.cells #[.int .i64 kb, .int .i64 0, .string ⟨#[]⟩, .bool false] 66)) w1.heap.size ⟨kb, 0, ⟨#[]⟩, false⟩ := blk_new w1 _
    have hne : w1.heap.size ≠ g := by have := hR1.lt; omega
    have hne2 : w.heap.size ≠ w1.heap.size := by have := blk_lt' hz1; omega
    have hsz : w.heap.size ≤ w1.heap.size := by have := blk_lt' hz1; omega
    obtain ⟨_, _, _, _, g5, _⟩ := (hR1.below hb1).cells
    have HR2 := Lib.hid (hR1.below hb1)
    have HO2 := Lib.hid (HRo.out.trans (hO1.trans (Ro.of_below hb1)))
    have g5 : (w1.alloc (.cells #[.int .i64 kb, .int .i64 0, .string ⟨#[]⟩, .bool false] 66)).cell? ⟨g, 2, none⟩ = some (.int .i64 q1) := g5
    have HZ2 := Lib.hid hz2
    have HX2 := Lib.hid hx2
    obtain ⟨y0, y1, y2, y3⟩ := hz2.cells
    obtain ⟨z0, z1, z2, z3⟩ := hz2.free
    have HR3 := HR2
    have HO3 := HO2
    have HZ4 := HZ2
    clear hR1 hO1 hz1 hb1 hz2 hx2
    go_wp2_with fail
    have hP := put4 HR3.out HO3.out (by omega) (Nat.le_refl _) (by omega) (.int .i64 0) (.int .i64 0) (.string ⟨#[]⟩) (.bool false)
    refine bodyPost_ret (results_cell_row rfl _ _ w.heap.size 66 #[.int .i64 0, .int .i64 0, .string ⟨#[]⟩, .bool false] (0, 0) _ rfl (HZ4.out.put ⟨0, 0, ⟨#[]⟩, false⟩) Tryd.underlying66 rfl (by kernel_rfl)) rfl ?_
    exact ⟨rfl, hP.1, hP.2⟩
end Go.Proofs.YtcfgmkmllcfjjaaDoor
