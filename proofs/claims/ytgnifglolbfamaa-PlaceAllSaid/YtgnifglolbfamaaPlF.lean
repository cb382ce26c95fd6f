/- The walks of many, iterating, behind, later. -/
import Derived.Test.YtgnifglolbfamaaPlE
set_option linter.unusedVariables false
set_option linter.unusedSimpArgs false
namespace Go.Proofs.Ytgnifglolbfamaa
open Go.RowKit Go.Proofs.YtgnifglolbfamaaW.PrintWords

def manyB (neg plus : Bool) : Bool := plus && !neg
def iterAt (n : Int) : Bool := n == 2 || n == 3 || n == 7
/-- A moment behind another one. -/
def behindB (s : Int) (c : Bool) (s' : Int) (c' : Bool) : Bool := decide (s > s') || (s == s' && c && !c')

set_option maxHeartbeats 1000000 in
theorem many_any (neg plus : Bool) (t v : ByteArray) (w : World) :
    Calls Try.prog 69 #[.agg #[.bool neg, .bool plus, .string t, .string v]] w fun e w' => e = .returned (.bool (manyB neg plus)) ∧ Below w.heap.size w w' := by
  cases neg <;> cases plus
  all_goals
    go_enter Try.func69, Try.ntmps69
    go_wp2_with fail
    go_ret
    exact ⟨rfl, below_new _ _⟩

set_option maxHeartbeats 1000000 in
theorem iterating_any (s : ByteArray) (n : Int) (t : ByteArray) (f : Int) (w : World) :
    Calls Try.prog 70 #[.agg #[.string s, .int .i64 n, .string t, .int .i64 f]] w fun e w' => e = .returned (.bool (iterAt n)) ∧ Below w.heap.size w w' := by
  obtain ⟨b, hb⟩ : ∃ b, b = iterAt n := ⟨_, rfl⟩
  rw [← hb]
  unfold iterAt at hb
  have HB := Lib.hid hb
  clear hb
  rcases Bool.eq_false_or_eq_true (n == 2) with d1 | d1
  · go_enter Try.func70, Try.ntmps70
    go_wp2_with fail
    go_ret
    exact ⟨by rw [HB.out, d1]; rfl, below_new _ _⟩
  · rcases Bool.eq_false_or_eq_true (n == 3) with d2 | d2
    · go_enter Try.func70, Try.ntmps70
      go_wp2_with fail
      go_ret
      exact ⟨by rw [HB.out, d1, d2]; rfl, below_new _ _⟩
    · rcases Bool.eq_false_or_eq_true (n == 7) with d3 | d3
      all_goals
        go_enter Try.func70, Try.ntmps70
        go_wp2_with fail
        go_ret
        exact ⟨by rw [HB.out, d1, d2, d3]; rfl, below_new _ _⟩

set_option maxHeartbeats 1000000 in
theorem behind_any (s : Int) (c : Bool) (s' : Int) (c' : Bool) (w : World) :
    Calls Try.prog 71 #[.agg #[.int .i64 s, .bool c], .agg #[.int .i64 s', .bool c']] w fun e w' => e = .returned (.bool (behindB s c s' c')) ∧ Below w.heap.size w w' := by
  obtain ⟨b, hb⟩ : ∃ b, b = behindB s c s' c' := ⟨_, rfl⟩
  rw [← hb]
  unfold behindB at hb
  have HB := Lib.hid hb
  clear hb
  rcases Bool.eq_false_or_eq_true (decide (s > s')) with d1 | d1
  · go_enter Try.func71, Try.ntmps71
    go_wp2_with fail
    go_ret
    exact ⟨by rw [HB.out, d1]; rfl, below_step (below_new _ _) (below_new _ _)⟩
  · rcases Bool.eq_false_or_eq_true (s == s') with d2 | d2
    · cases c <;> cases c'
      all_goals
        go_enter Try.func71, Try.ntmps71
        go_wp2_with fail
        go_ret
        exact ⟨by rw [HB.out, d1, d2]; rfl, below_step (below_new _ _) (below_new _ _)⟩
    · go_enter Try.func71, Try.ntmps71
      go_wp2_with fail
      go_ret
      exact ⟨by rw [HB.out, d1, d2]; rfl, below_step (below_new _ _) (below_new _ _)⟩

theorem blk_new1 (w : World) (A B : Obj) : ((w.alloc A).alloc B).heap[w.heap.size + 1]? = some B := by
  have := blk_new (w.alloc A) B
  rwa [alloc_size'] at this
theorem blk_new2 (w : World) (A B C : Obj) : (((w.alloc A).alloc B).alloc C).heap[w.heap.size + 1 + 1]? = some C := by
  have := blk_new ((w.alloc A).alloc B) C
  rwa [alloc_size', alloc_size'] at this
theorem below_new3 (w : World) (A B C : Obj) : Below w.heap.size w (((w.alloc A).alloc B).alloc C) := below_step (below_step (below_new _ _) (below_new _ _)) (below_new _ _)
/-- The later of two moments. -/
def laterM (m o : Int × Bool) : Int × Bool := if behindB o.1 o.2 m.1 m.2 then o else m
set_option maxHeartbeats 1000000 in
theorem later_any (m o : Int × Bool) (w : World) :
    Calls Try.prog 59 #[.agg #[.int .i64 m.1, .bool m.2], .agg #[.int .i64 o.1, .bool o.2]] w fun e w' => e = .returned (.agg #[.int .i64 (laterM m o).1, .bool (laterM m o).2]) ∧ Below w.heap.size w w' := by
  obtain ⟨s, c⟩ := m
  obtain ⟨s', c'⟩ := o
  have hb := behind_any s' c' s c
  obtain ⟨b, hbb⟩ : ∃ b, b = behindB s' c' s c := ⟨_, rfl⟩
  have HL := Lib.hid (show laterM (s, c) (s', c') = if b then (s', c') else (s, c) by rw [laterM, hbb])
  generalize laterM (s, c) (s', c') = r at *
  rw [← hbb] at hb
  have HBB := Lib.hid hb
  clear hb hbb
  cases b
  all_goals
    go_enter Try.func59, Try.ntmps59
    go_wp2_with fail
    refine (HBB.out _).mono ?_
    rintro e W1 ⟨rfl, hb1⟩
    have hA := blk_below (blk_alloc (blk_alloc (blk_new w (.cells #[.int .i64 s, .bool c] 129)) (.cells #[.int .i64 s', .bool c'] 129)) (.cells #[.int .i64 0, .bool false] 129)) hb1
    have hB := blk_below (blk_alloc (blk_new1 w (.cells #[.int .i64 s, .bool c] 129) (.cells #[.int .i64 s', .bool c'] 129)) (.cells #[.int .i64 0, .bool false] 129)) hb1
    have hZ := blk_below (blk_new2 w (.cells #[.int .i64 s, .bool c] 129) (.cells #[.int .i64 s', .bool c'] 129) (.cells #[.int .i64 0, .bool false] 129)) hb1
    have hBl := below_step (below_new3 w (.cells #[.int .i64 s, .bool c] 129) (.cells #[.int .i64 s', .bool c'] 129) (.cells #[.int .i64 0, .bool false] 129)) hb1
    clear hb1
    have a0 := (blk_cell hA 0).trans rfl
    have a1 := (blk_cell hA 1).trans rfl
    have b0 := (blk_cell hB 0).trans rfl
    have b1 := (blk_cell hB 1).trans rfl
    have z0 := (blk_cell hZ 0).trans rfl
    have z1 := (blk_cell hZ 1).trans rfl
    have f0 := blk_frozen hZ 0
    have f1 := blk_frozen hZ 1
    go_wp2_with fail
  · refine bodyPost_ret (results_cell_row rfl _ _ (w.heap.size + 1 + 1) 129 #[.int .i64 s, .bool c] (0, 0) _ rfl (blk_set (blk_set hZ 0 (.int .i64 s)) 1 (.bool c)) Try.underlying129 rfl (by kernel_rfl)) rfl ?_
    exact ⟨by rw [HL.out]; rfl, (hBl.setCell (p := ⟨w.heap.size + 1 + 1, 0, none⟩) (by show w.heap.size ≤ w.heap.size + 1 + 1; omega) _).setCell (p := ⟨w.heap.size + 1 + 1, 1, none⟩) (by show w.heap.size ≤ w.heap.size + 1 + 1; omega) _⟩
  · refine bodyPost_ret (results_cell_row rfl _ _ (w.heap.size + 1 + 1) 129 #[.int .i64 s', .bool c'] (0, 0) _ rfl (blk_set (blk_set hZ 0 (.int .i64 s')) 1 (.bool c')) Try.underlying129 rfl (by kernel_rfl)) rfl ?_
    exact ⟨by rw [HL.out]; rfl, (hBl.setCell (p := ⟨w.heap.size + 1 + 1, 0, none⟩) (by show w.heap.size ≤ w.heap.size + 1 + 1; omega) _).setCell (p := ⟨w.heap.size + 1 + 1, 1, none⟩) (by show w.heap.size ≤ w.heap.size + 1 + 1; omega) _⟩
end Go.Proofs.Ytgnifglolbfamaa
