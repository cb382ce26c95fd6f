/- The law's own query, whose places the document fixes: plain facts, and how what is written out lies in memory. -/
import Derived.Test.YtgnifglolbfamaaPmA
import Derived.Test.YtgnifglolbfamaaPmF
set_option linter.unusedVariables false
set_option linter.unusedSimpArgs false
namespace Go.Proofs.Ytgnifglolbfamaa
open Go.RowKit Go.Proofs.YtgnifglolbfamaaW.PrintWords

def bA : ByteArray := ⟨#[65]⟩
def bC : ByteArray := ⟨#[67]⟩
def bD : ByteArray := ⟨#[68]⟩
def ba : ByteArray := ⟨#[97]⟩
def bc : ByteArray := ⟨#[99]⟩
def bd : ByteArray := ⟨#[100]⟩
def cpsB : List Cp := [⟨false, false, bA, ba⟩, ⟨false, true, bC, bc⟩, ⟨false, false, bD, bd⟩]
def oneX : Ex := ⟨5, 6, zVal, ⟨#[]⟩, 0, ⟨#[]⟩, [refX bc 2, refX ba 1]⟩
def twoX : Ex := ⟨5, 6, zVal, ⟨#[]⟩, 0, ⟨#[]⟩, [refX bc 5, refX bd 1]⟩

theorem refs_one : refsOf oneX = [⟨bc, 2, ⟨#[120]⟩, 0⟩, ⟨ba, 1, ⟨#[120]⟩, 0⟩] := by
  simp [refsOf, oneX, refX, spk, spkL, refOf]
theorem refs_two : refsOf twoX = [⟨bc, 5, ⟨#[120]⟩, 0⟩, ⟨bd, 1, ⟨#[120]⟩, 0⟩] := by
  simp [refsOf, twoX, refX, spk, spkL, refOf]
theorem pat_B : patErr cpsB = 0 := by decide
theorem anc_one : anchorOf cpsB (refsOf oneX) = (2, 1, 0) := by rw [refs_one]; decide
theorem anc_two : anchorOf cpsB (refsOf twoX) = (1, 2, 0) := by rw [refs_two]; decide
theorem top_one : anchorTop cpsB (refsOf oneX) = (2, 1, 0) := by unfold anchorTop; rw [if_neg (by rw [pat_B]; simp), anc_one]
theorem top_two : anchorTop cpsB (refsOf twoX) = (1, 2, 0) := by unfold anchorTop; rw [if_neg (by rw [pat_B]; simp), anc_two]
theorem again_one : againOf oneX = true := by unfold againOf; rw [refs_one]; decide
theorem err_B : placeErr cpsB [oneX, twoX] = 0 := by
  unfold placeErr
  simp [List.find?, anc_one, anc_two]
theorem pl_B : placeL cpsB [oneX, twoX] 1 1 = [oneX] ∧ placeL cpsB [oneX, twoX] 2 1 = [oneX] ∧ placeL cpsB [oneX, twoX] 1 2 = [twoX] := by
  unfold placeL
  simp only [List.foldl_cons, List.foldl_nil, placeStep, anc_one, anc_two, again_one]
  simp [addP, upd2, plI]
theorem exN_one : exN oneX = 3 := by simp [oneX, refX, exN, exNL]
theorem exN_two : exN twoX = 3 := by simp [twoX, refX, exN, exNL]
theorem stg_B : stg cpsB = 3 := by decide

def c10 (x : Ex) (v : Value) : Array Value := #[.int .i64 x.f0, .int .i64 x.f1, .int .i64 x.f2.f0, .int .i64 x.f2.f1, .string x.f2.f2, .bool x.f2.f3, .string x.f3, .int .i64 x.f4, .string x.f5, v]
def c12 : Array Value := #[.bool false, .bool false, .string bA, .string ba, .bool false, .bool true, .string bC, .string bc, .bool false, .bool false, .string bD, .string bd]
theorem cps_reads {w : World} {g : Nat} (hb : w.heap[g]? = some (.cells c12 46 (0, 0))) : kCp.C w (some ⟨g, 0, none⟩) 3 cpsB :=
  reads_lit (d := kCp) hb rfl (Reps.snoc (Reps.snoc (Reps.snoc (Reps.none _ _) (kCp_mk w ⟨false, false, bA, ba⟩) rfl) (kCp_mk w ⟨false, true, bC, bc⟩) rfl) (kCp_mk w ⟨false, false, bD, bd⟩) rfl) (by decide) (by decide)
theorem kids_reads {w : World} {g : Nat} {a b : Ex} (ha : a.f6 = []) (hb' : b.f6 = []) {arr : Array Value} (hb : w.heap[g]? = some (.cells arr 31 (0, 0))) (harr : arr.toList = (c10 a (.slice none 0 0)).toList ++ (c10 b (.slice none 0 0)).toList) : kEx.C w (some ⟨g, 0, none⟩) 2 [a, b] := by
  have hk : ∀ x : Ex, x.f6 = [] → kEx.K w x (c10 x (.slice none 0 0)).toList := by
    intro x hx
    have h := kEx_mk w x (A9 := none) (c9 := 0) (by rw [hx]; exact Nat.le_refl _) (by rw [hx]; exact Kd.C_nil _ _)
    rw [hx] at h
    exact h
  refine reads_lit (d := kEx) hb rfl ?_ (by decide) (by simp)
  rw [harr]
  exact Reps.snoc (cs := (c10 a (.slice none 0 0)).toList) (ps := [a]) (Reps.snoc (Reps.none _ _) (hk a ha) rfl) (hk b hb') rfl
theorem pair_reads {w : World} {g g1 g2 : Nat} {x y : Ex} (hx : kEx.C w (some ⟨g1, 0, none⟩) x.f6.length x.f6) (hy : kEx.C w (some ⟨g2, 0, none⟩) y.f6.length y.f6) {c1 c2 : Nat} (h1 : x.f6.length ≤ c1) (h2 : y.f6.length ≤ c2) {arr : Array Value} (hb : w.heap[g]? = some (.cells arr 31 (0, 0)))
    (harr : arr.toList = (c10 x (.slice (some ⟨g1, 0, none⟩) x.f6.length c1)).toList ++ (c10 y (.slice (some ⟨g2, 0, none⟩) y.f6.length c2)).toList) : kEx.C w (some ⟨g, 0, none⟩) 2 [x, y] := by
  refine reads_lit (d := kEx) hb rfl ?_ (by decide) (by simp)
  rw [harr]
  exact Reps.snoc (cs := (c10 x (.slice (some ⟨g1, 0, none⟩) x.f6.length c1)).toList) (ps := [x]) (Reps.snoc (Reps.none _ _) (kEx_mk w x h1 hx) rfl) (kEx_mk w y h2 hy) rfl

theorem ref_lit (v : ByteArray) (n : Int) (w : World) : Calls Try.prog 36 #[.string v, .int .i64 n] w fun e w' => e = .returned (.agg #[.int .i64 2, .int .i64 0, .int .i64 0, .int .i64 0, .string ⟨#[]⟩, .bool false, .string v, .int .i64 n, .string ⟨#[120]⟩, .slice none 0 0]) ∧ Below w.heap.size w w' := ref_any v n w
theorem nm_B : ∀ x ∈ cpsB, x.f3.size ≤ maxLen := by
  intro x hx
  simp only [cpsB, List.mem_cons, List.not_mem_nil, or_false] at hx
  rcases hx with rfl | rfl | rfl <;> (show (1 : Nat) ≤ 9223372036854775807; omega)
theorem nr_one : ∀ r ∈ refsOf oneX, r.f0.size ≤ maxLen := by
  intro r hr
  rw [refs_one] at hr
  simp only [List.mem_cons, List.not_mem_nil, or_false] at hr
  rcases hr with rfl | rfl <;> (show (1 : Nat) ≤ 9223372036854775807; omega)
theorem nr_two : ∀ r ∈ refsOf twoX, r.f0.size ≤ maxLen := by
  intro r hr
  rw [refs_two] at hr
  simp only [List.mem_cons, List.not_mem_nil, or_false] at hr
  rcases hr with rfl | rfl <;> (show (1 : Nat) ≤ 9223372036854775807; omega)
theorem nr_both : ∀ x ∈ [oneX, twoX], ∀ r ∈ refsOf x, r.f0.size ≤ maxLen := by
  intro x hx
  simp only [List.mem_cons, List.not_mem_nil, or_false] at hx
  rcases hx with rfl | rfl
  · exact nr_one
  · exact nr_two

set_option maxHeartbeats 8000000 in
set_option maxRecDepth 100000 in
theorem begun_any (hadd : AddLaw) (w : World) : Calls Try.prog 8 #[] w (True_ w) := by
  have HADL := Lib.hid hadd
  clear hadd
  have hb0 := below_step (below_new w (.cells #[.bool false, .bool false, .string ⟨#[65]⟩, .string ⟨#[97]⟩, .bool false, .bool true, .string ⟨#[67]⟩, .string ⟨#[99]⟩, .bool false, .bool false, .string ⟨#[68]⟩, .string ⟨#[100]⟩] 46)) (below_new _ (.cells #[.slice (some ⟨w.heap.size, 0, none⟩) 3 3, .string ⟨#[]⟩, .int .i64 0, .slice none 0 0, .slice none 0 0, .int .i64 0, .string ⟨#[]⟩, .slice none 0 0] 27))
  have hC := blk_below (blk_new w (.cells #[.bool false, .bool false, .string ⟨#[65]⟩, .string ⟨#[97]⟩, .bool false, .bool true, .string ⟨#[67]⟩, .string ⟨#[99]⟩, .bool false, .bool false, .string ⟨#[68]⟩, .string ⟨#[100]⟩] 46)) (below_new _ (.cells #[.slice (some ⟨w.heap.size, 0, none⟩) 3 3, .string ⟨#[]⟩, .int .i64 0, .slice none 0 0, .slice none 0 0, .int .i64 0, .string ⟨#[]⟩, .slice none 0 0] 27))
  have hQ := blk_new (w.alloc (.cells #[.bool false, .bool false, .string ⟨#[65]⟩, .string ⟨#[97]⟩, .bool false, .bool true, .string ⟨#[67]⟩, .string ⟨#[99]⟩, .bool false, .bool false, .string ⟨#[68]⟩, .string ⟨#[100]⟩] 46)) (.cells #[.slice (some ⟨w.heap.size, 0, none⟩) 3 3, .string ⟨#[]⟩, .int .i64 0, .slice none 0 0, .slice none 0 0, .int .i64 0, .string ⟨#[]⟩, .slice none 0 0] 27)
  rw [alloc_size'] at hQ
  go_enter Try.func8, Try.ntmps8
  go_wp2_with fail
  generalize (w.alloc (.cells #[.bool false, .bool false, .string ⟨#[65]⟩, .string ⟨#[97]⟩, .bool false, .bool true, .string ⟨#[67]⟩, .string ⟨#[99]⟩, .bool false, .bool false, .string ⟨#[68]⟩, .string ⟨#[100]⟩] 46)).alloc (.cells #[.slice (some ⟨w.heap.size, 0, none⟩) 3 3, .string ⟨#[]⟩, .int .i64 0, .slice none 0 0, .slice none 0 0, .int .i64 0, .string ⟨#[]⟩, .slice none 0 0] 27) = W0 at *
  refine (ref_lit ⟨#[99]⟩ 2 W0).mono ?_
  rintro e W1 ⟨rfl, hb1⟩
  go_wp2_with fail
  refine (ref_lit ⟨#[97]⟩ 1 W1).mono ?_
  rintro e W2 ⟨rfl, hb2⟩
  have hK1 := blk_below (blk_new W2 (.cells #[.int .i64 2, .int .i64 0, .int .i64 0, .int .i64 0, .string ⟨#[]⟩, .bool false, .string ⟨#[99]⟩, .int .i64 2, .string ⟨#[120]⟩, .slice none 0 0, .int .i64 2, .int .i64 0, .int .i64 0, .int .i64 0, .string ⟨#[]⟩, .bool false, .string ⟨#[97]⟩, .int .i64 1, .string ⟨#[120]⟩, .slice none 0 0] 31)) (below_new _ (.cells #[.int .i64 5, .int .i64 6, .int .i64 0, .int .i64 0, .string ⟨#[]⟩, .bool false, .string ⟨#[]⟩, .int .i64 0, .string ⟨#[]⟩, .slice (some ⟨W2.heap.size, 0, none⟩) 2 2] 31))
  have hO1 := blk_new (W2.alloc (.cells #[.int .i64 2, .int .i64 0, .int .i64 0, .int .i64 0, .string ⟨#[]⟩, .bool false, .string ⟨#[99]⟩, .int .i64 2, .string ⟨#[120]⟩, .slice none 0 0, .int .i64 2, .int .i64 0, .int .i64 0, .int .i64 0, .string ⟨#[]⟩, .bool false, .string ⟨#[97]⟩, .int .i64 1, .string ⟨#[120]⟩, .slice none 0 0] 31)) (.cells #[.int .i64 5, .int .i64 6, .int .i64 0, .int .i64 0, .string ⟨#[]⟩, .bool false, .string ⟨#[]⟩, .int .i64 0, .string ⟨#[]⟩, .slice (some ⟨W2.heap.size, 0, none⟩) 2 2] 31)
  rw [alloc_size'] at hO1
  have hb3 := below_step (below_new W2 (.cells #[.int .i64 2, .int .i64 0, .int .i64 0, .int .i64 0, .string ⟨#[]⟩, .bool false, .string ⟨#[99]⟩, .int .i64 2, .string ⟨#[120]⟩, .slice none 0 0, .int .i64 2, .int .i64 0, .int .i64 0, .int .i64 0, .string ⟨#[]⟩, .bool false, .string ⟨#[97]⟩, .int .i64 1, .string ⟨#[120]⟩, .slice none 0 0] 31)) (below_new _ (.cells #[.int .i64 5, .int .i64 6, .int .i64 0, .int .i64 0, .string ⟨#[]⟩, .bool false, .string ⟨#[]⟩, .int .i64 0, .string ⟨#[]⟩, .slice (some ⟨W2.heap.size, 0, none⟩) 2 2] 31))
  go_wp2_with fail
  generalize (W2.alloc (.cells #[.int .i64 2, .int .i64 0, .int .i64 0, .int .i64 0, .string ⟨#[]⟩, .bool false, .string ⟨#[99]⟩, .int .i64 2, .string ⟨#[120]⟩, .slice none 0 0, .int .i64 2, .int .i64 0, .int .i64 0, .int .i64 0, .string ⟨#[]⟩, .bool false, .string ⟨#[97]⟩, .int .i64 1, .string ⟨#[120]⟩, .slice none 0 0] 31)).alloc (.cells #[.int .i64 5, .int .i64 6, .int .i64 0, .int .i64 0, .string ⟨#[]⟩, .bool false, .string ⟨#[]⟩, .int .i64 0, .string ⟨#[]⟩, .slice (some ⟨W2.heap.size, 0, none⟩) 2 2] 31) = W3 at *
  have hC3 := blk_below (blk_below (blk_below hC hb1) hb2) hb3
  have hQ3 := blk_below (blk_below (blk_below hQ hb1) hb2) hb3
  have hB3 := below_step (below_step (below_step hb0 hb1) hb2) hb3
  have hlt1 := blk_lt (blk_below (blk_below hQ hb1) hb2)
  clear hb0 hb1 hb2 hb3 hC hQ
  generalize W2.heap.size = g1 at hK1 hO1 hlt1 ⊢
  refine (ref_lit ⟨#[99]⟩ 5 W3).mono ?_
  rintro e W4 ⟨rfl, hb4⟩
  go_wp2_with fail
  refine (ref_lit ⟨#[100]⟩ 1 W4).mono ?_
  rintro e W5 ⟨rfl, hb5⟩
  have hK2 := blk_below (blk_new W5 (.cells #[.int .i64 2, .int .i64 0, .int .i64 0, .int .i64 0, .string ⟨#[]⟩, .bool false, .string ⟨#[99]⟩, .int .i64 5, .string ⟨#[120]⟩, .slice none 0 0, .int .i64 2, .int .i64 0, .int .i64 0, .int .i64 0, .string ⟨#[]⟩, .bool false, .string ⟨#[100]⟩, .int .i64 1, .string ⟨#[120]⟩, .slice none 0 0] 31)) (below_new _ (.cells #[.int .i64 5, .int .i64 6, .int .i64 0, .int .i64 0, .string ⟨#[]⟩, .bool false, .string ⟨#[]⟩, .int .i64 0, .string ⟨#[]⟩, .slice (some ⟨W5.heap.size, 0, none⟩) 2 2] 31))
  have hO2 := blk_new (W5.alloc (.cells #[.int .i64 2, .int .i64 0, .int .i64 0, .int .i64 0, .string ⟨#[]⟩, .bool false, .string ⟨#[99]⟩, .int .i64 5, .string ⟨#[120]⟩, .slice none 0 0, .int .i64 2, .int .i64 0, .int .i64 0, .int .i64 0, .string ⟨#[]⟩, .bool false, .string ⟨#[100]⟩, .int .i64 1, .string ⟨#[120]⟩, .slice none 0 0] 31)) (.cells #[.int .i64 5, .int .i64 6, .int .i64 0, .int .i64 0, .string ⟨#[]⟩, .bool false, .string ⟨#[]⟩, .int .i64 0, .string ⟨#[]⟩, .slice (some ⟨W5.heap.size, 0, none⟩) 2 2] 31)
  rw [alloc_size'] at hO2
  have hb6 := below_step (below_new W5 (.cells #[.int .i64 2, .int .i64 0, .int .i64 0, .int .i64 0, .string ⟨#[]⟩, .bool false, .string ⟨#[99]⟩, .int .i64 5, .string ⟨#[120]⟩, .slice none 0 0, .int .i64 2, .int .i64 0, .int .i64 0, .int .i64 0, .string ⟨#[]⟩, .bool false, .string ⟨#[100]⟩, .int .i64 1, .string ⟨#[120]⟩, .slice none 0 0] 31)) (below_new _ (.cells #[.int .i64 5, .int .i64 6, .int .i64 0, .int .i64 0, .string ⟨#[]⟩, .bool false, .string ⟨#[]⟩, .int .i64 0, .string ⟨#[]⟩, .slice (some ⟨W5.heap.size, 0, none⟩) 2 2] 31))
  have hC6 := blk_below (blk_below (blk_below hC3 hb4) hb5) hb6
  have hQ6 := blk_below (blk_below (blk_below hQ3 hb4) hb5) hb6
  have hK16 := blk_below (blk_below (blk_below hK1 hb4) hb5) hb6
  have hO16 := blk_below (blk_below (blk_below hO1 hb4) hb5) hb6
  have hB6 := below_step (below_step (below_step hB3 hb4) hb5) hb6
  have hlt2 := blk_lt (blk_below (blk_below hQ3 hb4) hb5)
  clear hb4 hb5 hb6 hC3 hQ3 hK1 hO1 hB3
  go_upto_region 4 with fail
  generalize (W5.alloc (.cells #[.int .i64 2, .int .i64 0, .int .i64 0, .int .i64 0, .string ⟨#[]⟩, .bool false, .string ⟨#[99]⟩, .int .i64 5, .string ⟨#[120]⟩, .slice none 0 0, .int .i64 2, .int .i64 0, .int .i64 0, .int .i64 0, .string ⟨#[]⟩, .bool false, .string ⟨#[100]⟩, .int .i64 1, .string ⟨#[120]⟩, .slice none 0 0] 31)).alloc (.cells #[.int .i64 5, .int .i64 6, .int .i64 0, .int .i64 0, .string ⟨#[]⟩, .bool false, .string ⟨#[]⟩, .int .i64 0, .string ⟨#[]⟩, .slice (some ⟨W5.heap.size, 0, none⟩) 2 2] 31) = W6 at *
  generalize W5.heap.size = g2 at hK2 hO2 hlt2 ⊢
  have oa0 := (blk_cell (hO16) 0).trans rfl
  have oa1 := (blk_cell (hO16) 1).trans rfl
  have oa2 := (blk_cell (hO16) 2).trans rfl
  have oa3 := (blk_cell (hO16) 3).trans rfl
  have oa4 := (blk_cell (hO16) 4).trans rfl
  have oa5 := (blk_cell (hO16) 5).trans rfl
  have oa6 := (blk_cell (hO16) 6).trans rfl
  have oa7 := (blk_cell (hO16) 7).trans rfl
  have oa8 := (blk_cell (hO16) 8).trans rfl
  have oa9 := (blk_cell (hO16) 9).trans rfl
  have ob0 := (blk_cell (hO2) 0).trans rfl
  have ob1 := (blk_cell (hO2) 1).trans rfl
  have ob2 := (blk_cell (hO2) 2).trans rfl
  have ob3 := (blk_cell (hO2) 3).trans rfl
  have ob4 := (blk_cell (hO2) 4).trans rfl
  have ob5 := (blk_cell (hO2) 5).trans rfl
  have ob6 := (blk_cell (hO2) 6).trans rfl
  have ob7 := (blk_cell (hO2) 7).trans rfl
  have ob8 := (blk_cell (hO2) 8).trans rfl
  have ob9 := (blk_cell (hO2) 9).trans rfl
  have q4 := pw_cell_below (below_new W6 (.cells #[.int .i64 5, .int .i64 6, .int .i64 0, .int .i64 0, .string ⟨#[]⟩, .bool false, .string ⟨#[]⟩, .int .i64 0, .string ⟨#[]⟩, .slice (some ⟨g1, 0, none⟩) 2 2, .int .i64 5, .int .i64 6, .int .i64 0, .int .i64 0, .string ⟨#[]⟩, .bool false, .string ⟨#[]⟩, .int .i64 0, .string ⟨#[]⟩, .slice (some ⟨g2, 0, none⟩) 2 2] 31)) ((blk_cell hQ6 4).trans rfl)
  have qf := blk_frozen (blk_alloc hQ6 (.cells #[.int .i64 5, .int .i64 6, .int .i64 0, .int .i64 0, .string ⟨#[]⟩, .bool false, .string ⟨#[]⟩, .int .i64 0, .string ⟨#[]⟩, .slice (some ⟨g1, 0, none⟩) 2 2, .int .i64 5, .int .i64 6, .int .i64 0, .int .i64 0, .string ⟨#[]⟩, .bool false, .string ⟨#[]⟩, .int .i64 0, .string ⟨#[]⟩, .slice (some ⟨g2, 0, none⟩) 2 2] 31)) 4
  have hlt6 := blk_lt hQ6
  have hsz : (W6.setCell ⟨w.heap.size + 1, 4, none⟩ (.slice (some ⟨W6.heap.size, 0, none⟩) 2 2)).heap.size = W6.heap.size := by simp [World.setCell]
  have hQ7 := blk_alloc (blk_set hQ6 4 (.slice (some ⟨W6.heap.size, 0, none⟩) 2 2)) (.cells #[.int .i64 5, .int .i64 6, .int .i64 0, .int .i64 0, .string ⟨#[]⟩, .bool false, .string ⟨#[]⟩, .int .i64 0, .string ⟨#[]⟩, .slice (some ⟨g1, 0, none⟩) 2 2, .int .i64 5, .int .i64 6, .int .i64 0, .int .i64 0, .string ⟨#[]⟩, .bool false, .string ⟨#[]⟩, .int .i64 0, .string ⟨#[]⟩, .slice (some ⟨g2, 0, none⟩) 2 2] 31)
  have hW7 := blk_new (W6.setCell ⟨w.heap.size + 1, 4, none⟩ (.slice (some ⟨W6.heap.size, 0, none⟩) 2 2)) (.cells #[.int .i64 5, .int .i64 6, .int .i64 0, .int .i64 0, .string ⟨#[]⟩, .bool false, .string ⟨#[]⟩, .int .i64 0, .string ⟨#[]⟩, .slice (some ⟨g1, 0, none⟩) 2 2, .int .i64 5, .int .i64 6, .int .i64 0, .int .i64 0, .string ⟨#[]⟩, .bool false, .string ⟨#[]⟩, .int .i64 0, .string ⟨#[]⟩, .slice (some ⟨g2, 0, none⟩) 2 2] 31)
  rw [hsz] at hW7
  clear hsz
  have hC7 := blk_alloc (blk_far hC6 (p := ⟨w.heap.size + 1, 4, none⟩) (by show w.heap.size ≠ w.heap.size + 1; omega) (.slice (some ⟨W6.heap.size, 0, none⟩) 2 2)) (.cells #[.int .i64 5, .int .i64 6, .int .i64 0, .int .i64 0, .string ⟨#[]⟩, .bool false, .string ⟨#[]⟩, .int .i64 0, .string ⟨#[]⟩, .slice (some ⟨g1, 0, none⟩) 2 2, .int .i64 5, .int .i64 6, .int .i64 0, .int .i64 0, .string ⟨#[]⟩, .bool false, .string ⟨#[]⟩, .int .i64 0, .string ⟨#[]⟩, .slice (some ⟨g2, 0, none⟩) 2 2] 31)
  have hK17 := blk_alloc (blk_far hK16 (p := ⟨w.heap.size + 1, 4, none⟩) (by show g1 ≠ w.heap.size + 1; omega) (.slice (some ⟨W6.heap.size, 0, none⟩) 2 2)) (.cells #[.int .i64 5, .int .i64 6, .int .i64 0, .int .i64 0, .string ⟨#[]⟩, .bool false, .string ⟨#[]⟩, .int .i64 0, .string ⟨#[]⟩, .slice (some ⟨g1, 0, none⟩) 2 2, .int .i64 5, .int .i64 6, .int .i64 0, .int .i64 0, .string ⟨#[]⟩, .bool false, .string ⟨#[]⟩, .int .i64 0, .string ⟨#[]⟩, .slice (some ⟨g2, 0, none⟩) 2 2] 31)
  have hO17 := blk_alloc (blk_far hO16 (p := ⟨w.heap.size + 1, 4, none⟩) (by show g1 + 1 ≠ w.heap.size + 1; omega) (.slice (some ⟨W6.heap.size, 0, none⟩) 2 2)) (.cells #[.int .i64 5, .int .i64 6, .int .i64 0, .int .i64 0, .string ⟨#[]⟩, .bool false, .string ⟨#[]⟩, .int .i64 0, .string ⟨#[]⟩, .slice (some ⟨g1, 0, none⟩) 2 2, .int .i64 5, .int .i64 6, .int .i64 0, .int .i64 0, .string ⟨#[]⟩, .bool false, .string ⟨#[]⟩, .int .i64 0, .string ⟨#[]⟩, .slice (some ⟨g2, 0, none⟩) 2 2] 31)
  have hK27 := blk_alloc (blk_far hK2 (p := ⟨w.heap.size + 1, 4, none⟩) (by show g2 ≠ w.heap.size + 1; omega) (.slice (some ⟨W6.heap.size, 0, none⟩) 2 2)) (.cells #[.int .i64 5, .int .i64 6, .int .i64 0, .int .i64 0, .string ⟨#[]⟩, .bool false, .string ⟨#[]⟩, .int .i64 0, .string ⟨#[]⟩, .slice (some ⟨g1, 0, none⟩) 2 2, .int .i64 5, .int .i64 6, .int .i64 0, .int .i64 0, .string ⟨#[]⟩, .bool false, .string ⟨#[]⟩, .int .i64 0, .string ⟨#[]⟩, .slice (some ⟨g2, 0, none⟩) 2 2] 31)
  have hO27 := blk_alloc (blk_far hO2 (p := ⟨w.heap.size + 1, 4, none⟩) (by show g2 + 1 ≠ w.heap.size + 1; omega) (.slice (some ⟨W6.heap.size, 0, none⟩) 2 2)) (.cells #[.int .i64 5, .int .i64 6, .int .i64 0, .int .i64 0, .string ⟨#[]⟩, .bool false, .string ⟨#[]⟩, .int .i64 0, .string ⟨#[]⟩, .slice (some ⟨g1, 0, none⟩) 2 2, .int .i64 5, .int .i64 6, .int .i64 0, .int .i64 0, .string ⟨#[]⟩, .bool false, .string ⟨#[]⟩, .int .i64 0, .string ⟨#[]⟩, .slice (some ⟨g2, 0, none⟩) 2 2] 31)
  have hB7 := below_step (hB6.setCell (p := ⟨w.heap.size + 1, 4, none⟩) (Nat.le_succ _) (.slice (some ⟨W6.heap.size, 0, none⟩) 2 2)) (below_new _ (.cells #[.int .i64 5, .int .i64 6, .int .i64 0, .int .i64 0, .string ⟨#[]⟩, .bool false, .string ⟨#[]⟩, .int .i64 0, .string ⟨#[]⟩, .slice (some ⟨g1, 0, none⟩) 2 2, .int .i64 5, .int .i64 6, .int .i64 0, .int .i64 0, .string ⟨#[]⟩, .bool false, .string ⟨#[]⟩, .int .i64 0, .string ⟨#[]⟩, .slice (some ⟨g2, 0, none⟩) 2 2] 31))
  go_upto_region 5 with fail
  generalize (W6.setCell ⟨w.heap.size + 1, 4, none⟩ (.slice (some ⟨W6.heap.size, 0, none⟩) 2 2)).alloc (.cells #[.int .i64 5, .int .i64 6, .int .i64 0, .int .i64 0, .string ⟨#[]⟩, .bool false, .string ⟨#[]⟩, .int .i64 0, .string ⟨#[]⟩, .slice (some ⟨g1, 0, none⟩) 2 2, .int .i64 5, .int .i64 6, .int .i64 0, .int .i64 0, .string ⟨#[]⟩, .bool false, .string ⟨#[]⟩, .int .i64 0, .string ⟨#[]⟩, .slice (some ⟨g2, 0, none⟩) 2 2] 31) = W7 at *
  generalize W6.heap.size = g3 at hQ7 hW7 ⊢
  replace hQ7 : W7.heap[w.heap.size + 1]? = some (.cells #[.slice (some ⟨w.heap.size, 0, none⟩) 3 3, .string ⟨#[]⟩, .int .i64 0, .slice none 0 0, .slice (some ⟨g3, 0, none⟩) 2 2, .int .i64 0, .string ⟨#[]⟩, .slice none 0 0] 27 (0, 0)) := hQ7
  clear q4 qf hQ6 hC6 hK16 hO16 hK2 hO2 hB6 hlt6 oa0 ob0 oa1 ob1 oa2 ob2 oa3 ob3 oa4 ob4 oa5 ob5 oa6 ob6 oa7 ob7 oa8 ob8 oa9 ob9
  have hCP := fun (W : World) (hb : Below W7.heap.size W7 W) => cps_reads (blk_below hC7 hb)
  have hK1r := fun (W : World) (hb : Below W7.heap.size W7 W) => kids_reads (a := refX bc 2) (b := refX ba 1) rfl rfl (blk_below hK17 hb) rfl
  have hK2r := fun (W : World) (hb : Below W7.heap.size W7 W) => kids_reads (a := refX bc 5) (b := refX bd 1) rfl rfl (blk_below hK27 hb) rfl
  have hWr := fun (W : World) (hb : Below W7.heap.size W7 W) => pair_reads (x := oneX) (y := twoX) (hK1r W hb) (hK2r W hb) (c1 := 2) (c2 := 2) (Nat.le_refl _) (Nat.le_refl _) (blk_below hW7 hb) rfl
  have ha1 := Anchor_any cpsB (some ⟨w.heap.size, 0, none⟩) 3 ⟨#[]⟩ 0 (.slice none 0 0) (.slice (some ⟨g3, 0, none⟩) 2 2) 0 ⟨#[]⟩ (.slice none 0 0) rfl rfl rfl oneX (some ⟨g1, 0, none⟩) 2 W7 (Nat.le_refl _) (hCP W7 (Below.refl _ _)) nm_B nr_one (by rw [exN_one]; decide) (Nat.le_refl _) (hK1r W7 (Below.refl _ _))
  rw [top_one] at ha1
  have HA1 := Lib.hid ha1
  have HA2 := Lib.hid (fun (W : World) (hb : Below W7.heap.size W7 W) => Anchor_any cpsB (some ⟨w.heap.size, 0, none⟩) 3 ⟨#[]⟩ 0 (.slice none 0 0) (.slice (some ⟨g3, 0, none⟩) 2 2) 0 ⟨#[]⟩ (.slice none 0 0) rfl rfl rfl twoX (some ⟨g2, 0, none⟩) 2 W (Nat.le_refl _) (hCP W hb) nm_B nr_two (by rw [exN_two]; decide) (Nat.le_refl _) (hK2r W hb))
  rw [top_two] at HA2
  have HPL := Lib.hid (fun (W : World) (hb : Below W7.heap.size W7 W) => Place_any HADL.out cpsB (some ⟨w.heap.size, 0, none⟩) 3 ⟨#[]⟩ 0 (.slice none 0 0) [oneX, twoX] (some ⟨g3, 0, none⟩) 2 0 ⟨#[]⟩ (.slice none 0 0) rfl rfl W (Nat.le_refl _) (hCP W hb) nm_B (hWr W hb) (by simp [exNL, exN_one, exN_two]) nr_both)
  have HQ7 := Lib.hid hQ7
  have HO1 := Lib.hid hO17
  have HO2 := Lib.hid hO27
  clear ha1 hCP hK1r hK2r hWr hC7 hK17 hK27 hW7
  have k0 := (blk_cell (HQ7.out) 0).trans rfl
  have k1 := (blk_cell (HQ7.out) 1).trans rfl
  have k2 := (blk_cell (HQ7.out) 2).trans rfl
  have k3 := (blk_cell (HQ7.out) 3).trans rfl
  have k4 := (blk_cell (HQ7.out) 4).trans rfl
  have k5 := (blk_cell (HQ7.out) 5).trans rfl
  have k6 := (blk_cell (HQ7.out) 6).trans rfl
  have k7 := (blk_cell (HQ7.out) 7).trans rfl
  have oa0 := (blk_cell (HO1.out) 0).trans rfl
  have oa1 := (blk_cell (HO1.out) 1).trans rfl
  have oa2 := (blk_cell (HO1.out) 2).trans rfl
  have oa3 := (blk_cell (HO1.out) 3).trans rfl
  have oa4 := (blk_cell (HO1.out) 4).trans rfl
  have oa5 := (blk_cell (HO1.out) 5).trans rfl
  have oa6 := (blk_cell (HO1.out) 6).trans rfl
  have oa7 := (blk_cell (HO1.out) 7).trans rfl
  have oa8 := (blk_cell (HO1.out) 8).trans rfl
  have oa9 := (blk_cell (HO1.out) 9).trans rfl
  have ob0 := (blk_cell (HO2.out) 0).trans rfl
  have ob1 := (blk_cell (HO2.out) 1).trans rfl
  have ob2 := (blk_cell (HO2.out) 2).trans rfl
  have ob3 := (blk_cell (HO2.out) 3).trans rfl
  have ob4 := (blk_cell (HO2.out) 4).trans rfl
  have ob5 := (blk_cell (HO2.out) 5).trans rfl
  have ob6 := (blk_cell (HO2.out) 6).trans rfl
  have ob7 := (blk_cell (HO2.out) 7).trans rfl
  have ob8 := (blk_cell (HO2.out) 8).trans rfl
  have ob9 := (blk_cell (HO2.out) 9).trans rfl
  go_wp2_with fail
  refine HA1.out.mono ?_
  rintro e W8 ⟨hb8, rfl⟩
  have k0 := (blk_cell (blk_below HQ7.out hb8) 0).trans rfl
  have k1 := (blk_cell (blk_below HQ7.out hb8) 1).trans rfl
  have k2 := (blk_cell (blk_below HQ7.out hb8) 2).trans rfl
  have k3 := (blk_cell (blk_below HQ7.out hb8) 3).trans rfl
  have k4 := (blk_cell (blk_below HQ7.out hb8) 4).trans rfl
  have k5 := (blk_cell (blk_below HQ7.out hb8) 5).trans rfl
  have k6 := (blk_cell (blk_below HQ7.out hb8) 6).trans rfl
  have k7 := (blk_cell (blk_below HQ7.out hb8) 7).trans rfl
  have ob0 := (blk_cell (blk_below HO2.out hb8) 0).trans rfl
  have ob1 := (blk_cell (blk_below HO2.out hb8) 1).trans rfl
  have ob2 := (blk_cell (blk_below HO2.out hb8) 2).trans rfl
  have ob3 := (blk_cell (blk_below HO2.out hb8) 3).trans rfl
  have ob4 := (blk_cell (blk_below HO2.out hb8) 4).trans rfl
  have ob5 := (blk_cell (blk_below HO2.out hb8) 5).trans rfl
  have ob6 := (blk_cell (blk_below HO2.out hb8) 6).trans rfl
  have ob7 := (blk_cell (blk_below HO2.out hb8) 7).trans rfl
  have ob8 := (blk_cell (blk_below HO2.out hb8) 8).trans rfl
  have ob9 := (blk_cell (blk_below HO2.out hb8) 9).trans rfl
  go_wp2_with fail
  refine (HA2.out W8 hb8).mono ?_
  rintro e W9 ⟨hb9', rfl⟩
  have hb9 := below_step hb8 hb9'
  have k0 := (blk_cell (blk_below HQ7.out hb9) 0).trans rfl
  have k1 := (blk_cell (blk_below HQ7.out hb9) 1).trans rfl
  have k2 := (blk_cell (blk_below HQ7.out hb9) 2).trans rfl
  have k3 := (blk_cell (blk_below HQ7.out hb9) 3).trans rfl
  have k4 := (blk_cell (blk_below HQ7.out hb9) 4).trans rfl
  have k5 := (blk_cell (blk_below HQ7.out hb9) 5).trans rfl
  have k6 := (blk_cell (blk_below HQ7.out hb9) 6).trans rfl
  have k7 := (blk_cell (blk_below HQ7.out hb9) 7).trans rfl
  go_wp2_with fail
  refine (HPL.out W9 hb9).mono ?_
  rintro e W10 ⟨hb10', hcase⟩
  have hb10 := below_step hb9 hb10'
  rcases hcase with ⟨h, _⟩ | ⟨_, h, _⟩ | ⟨_, _, G, S, N, T, U, Pl, nb, cap, junk, V, f, base, hbase, hI, rfl⟩
  · exact absurd pat_B h
  · exact absurd err_B h
  · have hst : stg cpsB = 3 := stg_B
    obtain ⟨A1, c1, e1⟩ := Kd.R_slice (hI.hL 1 1 (by decide))
    obtain ⟨A2, c2, e2⟩ := Kd.R_slice (hI.hL 2 1 (by decide))
    obtain ⟨A3, c3, e3⟩ := Kd.R_slice (hI.hL 1 2 (by decide))
    obtain ⟨A5, c5, e5⟩ := Kd.R_slice (hI.hL 5 0 (by decide))
    rw [pl_B.1] at e1
    rw [pl_B.2.1] at e2
    rw [pl_B.2.2] at e3
    have m1 : W10.cell? ⟨S, 11, none⟩ = some (.slice A1 1 c1) := (hI.hS.cell (i := 11) (by rw [hst]; decide)).trans (congrArg some ((cellS_at4 T U Pl (nv cpsB nb cap) (V 1) (V 2) (V 3) 1).trans e1))
    have m2 : W10.cell? ⟨S, 12, none⟩ = some (.slice A2 1 c2) := (hI.hS.cell (i := 12) (by rw [hst]; decide)).trans (congrArg some ((cellS_at5 T U Pl (nv cpsB nb cap) (V 1) (V 2) (V 3) 1).trans e2))
    have m3 : W10.cell? ⟨S, 18, none⟩ = some (.slice A3 1 c3) := (hI.hS.cell (i := 18) (by rw [hst]; decide)).trans (congrArg some ((cellS_at4 T U Pl (nv cpsB nb cap) (V 1) (V 2) (V 3) 2).trans e3))
    have t1 : Pl 1 = true := (hI.hT 1 (by decide) (by decide)).2.2
    have t2 : T 2 = ⟨#[68]⟩ := (hI.hT 2 (by decide) (by decide)).1
    have m4 : W10.cell? ⟨S, 9, none⟩ = some (.bool true) := (hI.hS.cell (i := 9) (by rw [hst]; decide)).trans (congrArg some ((cellS_at2 T U Pl (nv cpsB nb cap) (V 1) (V 2) (V 3) 1).trans (by rw [t1])))
    have m5 : W10.cell? ⟨S, 14, none⟩ = some (.string ⟨#[68]⟩) := (hI.hS.cell (i := 14) (by rw [hst]; decide)).trans (congrArg some ((cellS_at0 T U Pl (nv cpsB nb cap) (V 1) (V 2) (V 3) 2).trans (by rw [t2])))
    rw [e5, hst]
    clear hI hst e1 e2 e3 e5 t1 t2 hQ7 hO17 hO27 k0 k1 k2 k3 k4 k5 k6 k7
    go_wp2_with fail
    go_ret
    exact ⟨rfl, below_step hB7 hb10⟩
end Go.Proofs.Ytgnifglolbfamaa
