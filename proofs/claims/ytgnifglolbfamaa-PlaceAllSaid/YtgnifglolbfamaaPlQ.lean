/- The stages without conditions: how they lie in memory while place.layoutOf makes them. -/
import Derived.Test.YtgnifglolbfamaaPlP
import Derived.Deep.OwnRows
set_option linter.unusedVariables false
set_option linter.unusedSimpArgs false
namespace Go.Proofs.Ytgnifglolbfamaa
open Go.RowKit Go.Proofs.YtgnifglolbfamaaW.PrintWords

theorem infoSg : (Try.prog.info? 71).map (fun i => (i.zero, i.size, i.bytes)) = some (some (.agg #[.string ⟨#[]⟩, .string ⟨#[]⟩, .bool false, .slice none 0 0, .slice none 0 0, .slice none 0 0, .slice none 0 0]), 7, 136) := by kernel_rfl
theorem infoNp : (Try.prog.info? 132).map (fun i => (i.zero, i.size, i.bytes)) = some (some (.pointer none), 1, 8) := by kernel_rfl
theorem infoNg : (Try.prog.info? 73).map (fun i => (i.zero, i.size, i.bytes)) = some (some (.agg #[.string ⟨#[]⟩, .string ⟨#[]⟩, .slice none 0 0]), 3, 56) := by kernel_rfl
def z7 : Array Value := #[.string ⟨#[]⟩, .string ⟨#[]⟩, .bool false, .slice none 0 0, .slice none 0 0, .slice none 0 0, .slice none 0 0]
theorem make_sg (n : Nat) (hn : n ≤ 1000000) (W : World) : (Instr.makeSlice 52 (.int .i64 (n : Int)) (.int .i64 (n : Int))).run Try.prog W = .ok (.slice (some ⟨W.heap.size, 0, none⟩) n n) (W.alloc (.cells (madeCells z7 (n * 7)) 71)) := by
  obtain ⟨i, hi, hzz⟩ := Option.map_eq_some_iff.1 infoSg
  simp only [Prod.mk.injEq] at hzz
  obtain ⟨hz, hs, hb⟩ := hzz
  have hr := run_make (P := Try.prog) W 52 71 i _ Try.underlying52 hi hz .i64 .i64 n n (by omega) (by omega) (by rw [hb]; omega) (by omega)
  simp only [Int.toNat_natCast, hs] at hr
  exact hr
theorem make_np (n : Nat) (hn : n ≤ 1000000) (W : World) : (Instr.makeSlice 100 (.int .i64 (n : Int)) (.int .i64 (n : Int))).run Try.prog W = .ok (.slice (some ⟨W.heap.size, 0, none⟩) n n) (W.alloc (.cells (madeCells #[.pointer none] n) 132)) :=
  run_make_row' 100 132 _ 8 Try.underlying100 infoNp rfl .i64 .i64 n (by omega) (by omega) W
theorem make_int (n : Nat) (hn : n ≤ 1000000) (W : World) : (Instr.makeSlice 59 (.int .i64 (n : Int)) (.int .i64 (n : Int))).run Try.prog W = .ok (.slice (some ⟨W.heap.size, 0, none⟩) n n) (W.alloc (.cells (madeCells #[.int .i64 0] n) 3)) :=
  run_make_row' 59 3 _ 8 Try.underlying59 infoInt rfl .i64 .i64 n (by omega) (by omega) W

/-! the components by their places -/
def cpA (cs : List Cp) (i : Nat) : Cp := cs.getD i zCp
def negB (cs : List Cp) (i : Nat) : Bool := (cpA cs i).f0
def stA (cs : List Cp) (i : Nat) : Nat := stg (cs.take i)
/-- The negated ones ahead of stage s, among the first k components. -/
def ngI (cs : List Cp) (k s : Nat) : List Nat := (List.range k).filter (fun i => negB cs i && stA cs i == s)
theorem ngI_succ (cs : List Cp) (k s : Nat) : ngI cs (k + 1) s = ngI cs k s ++ if negB cs k && stA cs k == s then [k] else [] := by
  unfold ngI
  rw [List.range_succ, List.filter_append, List.filter_cons, List.filter_nil]
theorem ngI_lt {cs : List Cp} {k s i : Nat} (h : i ∈ ngI cs k s) : i < k ∧ negB cs i = true ∧ stA cs i = s := by
  unfold ngI at h
  rw [List.mem_filter, List.mem_range] at h
  simp only [Bool.and_eq_true, beq_iff_eq] at h
  exact h
theorem stA_succ (cs : List Cp) (k : Nat) (hk : k < cs.length) : stA cs (k + 1) = stA cs k + if negB cs k then 0 else 1 := by
  unfold stA negB cpA
  rw [List.take_succ_eq_append_getElem hk, stg_append, List.getD_eq_getElem?_getD, List.getElem?_eq_getElem hk]
  simp [stg]
theorem stA_mono (cs : List Cp) : ∀ (j i : Nat), i ≤ j → j ≤ cs.length → stA cs i ≤ stA cs j
  | 0, i, h, _ => by have : i = 0 := by omega
                     subst this; exact Nat.le_refl _
  | j + 1, i, h, hj => by
    rcases Nat.lt_or_ge i (j + 1) with h1 | h1
    · have := stA_mono cs j i (by omega) (by omega)
      have := stA_succ cs j (by omega)
      omega
    · have : i = j + 1 := by omega
      subst this; exact Nat.le_refl _
theorem stA_pos (cs : List Cp) (i j : Nat) (h : i < j) (hj : j ≤ cs.length) (hn : negB cs i = false) : stA cs i < stA cs j := by
  have h1 := stA_succ cs i (by omega)
  have h2 := stA_mono cs j (i + 1) (by omega) hj
  rw [hn] at h1
  simp at h1
  omega
theorem stA_all (cs : List Cp) : stA cs cs.length = stg cs := by unfold stA; rw [List.take_length]
theorem stA_lt (cs : List Cp) (hl : negB cs (cs.length - 1) = false) (i : Nat) (h : i < cs.length) : stA cs i < stg cs := by
  have h1 := stA_mono cs (cs.length - 1) i (by omega) (by omega)
  have h2 := stA_pos cs (cs.length - 1) cs.length (by omega) (Nat.le_refl _) hl
  rw [stA_all] at h2
  omega
theorem ngI_len (cs : List Cp) (k s : Nat) : (ngI cs k s).length ≤ k := by
  unfold ngI
  exact Nat.le_trans (List.length_filter_le _ _) (by simp)

/-- A negated one, without conditions, as it lies in its list. -/
def kN0 : Kd Ng where
  sz := 3
  E := []
  K _ x cs := cs = [.string x.f0, .string x.f1, .slice none 0 0]
  M _ _ _ x cs := cs = [.string x.f0, .string x.f1, .slice none 0 0]
  K_len := by rintro _ _ _ rfl; rfl
  K_one := by rintro _ _ _ rfl u hu; simp at hu; rcases hu with rfl | rfl | rfl <;> rfl
  K_below := fun _ h => h
  K_of_M := fun h => h
  M_mono := fun _ h => h
  M_bound := fun h => h
  M_move := fun _ h => h
  M_lower := fun _ h => h
def ngOf (cs : List Cp) (i : Nat) : Ng := ⟨(cpA cs i).f2, (cpA cs i).f3, []⟩
def ngL (cs : List Cp) (k s : Nat) : List Ng := (ngI cs k s).map (ngOf cs)

def upd {α : Type} (F : Nat → α) (s : Nat) (v : α) : Nat → α := fun x => if x = s then v else F x
def cellS (T U : Nat → ByteArray) (Pl : Nat → Bool) (V3 V4 V5 V6 : Nat → Value) (o : Nat) : Value :=
  if o % 7 = 0 then .string (T (o / 7)) else if o % 7 = 1 then .string (U (o / 7)) else if o % 7 = 2 then .bool (Pl (o / 7)) else if o % 7 = 3 then V3 (o / 7) else if o % 7 = 4 then V4 (o / 7) else if o % 7 = 5 then V5 (o / 7) else V6 (o / 7)
section
variable (T U : Nat → ByteArray) (Pl : Nat → Bool) (V3 V4 V5 V6 : Nat → Value) (s : Nat)
theorem cellS_at0 : cellS T U Pl V3 V4 V5 V6 (s * 7) = .string (T s) := by unfold cellS; rw [if_pos (by omega), show s * 7 / 7 = s from by omega]
theorem cellS_at1 : cellS T U Pl V3 V4 V5 V6 (s * 7 + 1) = .string (U s) := by unfold cellS; rw [if_neg (by omega), if_pos (by omega), show (s * 7 + 1) / 7 = s from by omega]
theorem cellS_at2 : cellS T U Pl V3 V4 V5 V6 (s * 7 + 2) = .bool (Pl s) := by unfold cellS; rw [if_neg (by omega), if_neg (by omega), if_pos (by omega), show (s * 7 + 2) / 7 = s from by omega]
theorem cellS_at3 : cellS T U Pl V3 V4 V5 V6 (s * 7 + 3) = V3 s := by unfold cellS; rw [if_neg (by omega), if_neg (by omega), if_neg (by omega), if_pos (by omega), show (s * 7 + 3) / 7 = s from by omega]
theorem cellS_at4 : cellS T U Pl V3 V4 V5 V6 (s * 7 + 4) = V4 s := by unfold cellS; rw [if_neg (by omega), if_neg (by omega), if_neg (by omega), if_neg (by omega), if_pos (by omega), show (s * 7 + 4) / 7 = s from by omega]
theorem cellS_at5 : cellS T U Pl V3 V4 V5 V6 (s * 7 + 5) = V5 s := by unfold cellS; rw [if_neg (by omega), if_neg (by omega), if_neg (by omega), if_neg (by omega), if_neg (by omega), if_pos (by omega), show (s * 7 + 5) / 7 = s from by omega]
theorem cellS_at6 : cellS T U Pl V3 V4 V5 V6 (s * 7 + 6) = V6 s := by unfold cellS; rw [if_neg (by omega), if_neg (by omega), if_neg (by omega), if_neg (by omega), if_neg (by omega), if_neg (by omega), show (s * 7 + 6) / 7 = s from by omega]
theorem cellS_set0 (v : ByteArray) (o : Nat) : (if o = s * 7 then .string v else cellS T U Pl V3 V4 V5 V6 o) = cellS (upd T s v) U Pl V3 V4 V5 V6 o := by
  by_cases h : o = s * 7
  · subst h; rw [if_pos rfl, cellS_at0]; simp [upd]
  · rw [if_neg h]; unfold cellS upd
    by_cases h2 : o % 7 = 0
    · rw [if_pos h2, if_pos h2, if_neg (by omega)]
    · rw [if_neg h2, if_neg h2]
theorem cellS_set1 (v : ByteArray) (o : Nat) : (if o = s * 7 + 1 then .string v else cellS T U Pl V3 V4 V5 V6 o) = cellS T (upd U s v) Pl V3 V4 V5 V6 o := by
  by_cases h : o = s * 7 + 1
  · subst h; rw [if_pos rfl, cellS_at1]; simp [upd]
  · rw [if_neg h]; unfold cellS upd
    by_cases h2 : o % 7 = 1
    · simp only [h2, if_true]; rw [if_neg (show ¬ o / 7 = s by omega)]
    · simp only [h2, if_false]
theorem cellS_set2 (v : Bool) (o : Nat) : (if o = s * 7 + 2 then .bool v else cellS T U Pl V3 V4 V5 V6 o) = cellS T U (upd Pl s v) V3 V4 V5 V6 o := by
  by_cases h : o = s * 7 + 2
  · subst h; rw [if_pos rfl, cellS_at2]; simp [upd]
  · rw [if_neg h]; unfold cellS upd
    by_cases h2 : o % 7 = 2
    · simp only [h2, if_true]; rw [if_neg (show ¬ o / 7 = s by omega)]
    · simp only [h2, if_false]
theorem cellS_set3 (v : Value) (o : Nat) : (if o = s * 7 + 3 then v else cellS T U Pl V3 V4 V5 V6 o) = cellS T U Pl (upd V3 s v) V4 V5 V6 o := by
  by_cases h : o = s * 7 + 3
  · subst h; rw [if_pos rfl, cellS_at3]; simp [upd]
  · rw [if_neg h]; unfold cellS upd
    by_cases h2 : o % 7 = 3
    · simp only [h2, if_true]; rw [if_neg (show ¬ o / 7 = s by omega)]
    · simp only [h2, if_false]
theorem cellS_set4 (v : Value) (o : Nat) : (if o = s * 7 + 4 then v else cellS T U Pl V3 V4 V5 V6 o) = cellS T U Pl V3 (upd V4 s v) V5 V6 o := by
  by_cases h : o = s * 7 + 4
  · subst h; rw [if_pos rfl, cellS_at4]; simp [upd]
  · rw [if_neg h]; unfold cellS upd
    by_cases h2 : o % 7 = 4
    · simp only [h2, if_true]; rw [if_neg (show ¬ o / 7 = s by omega)]
    · simp only [h2, if_false]
theorem cellS_set5 (v : Value) (o : Nat) : (if o = s * 7 + 5 then v else cellS T U Pl V3 V4 V5 V6 o) = cellS T U Pl V3 V4 (upd V5 s v) V6 o := by
  by_cases h : o = s * 7 + 5
  · subst h; rw [if_pos rfl, cellS_at5]; simp [upd]
  · rw [if_neg h]; unfold cellS upd
    by_cases h2 : o % 7 = 5
    · simp only [h2, if_true]; rw [if_neg (show ¬ o / 7 = s by omega)]
    · simp only [h2, if_false]
theorem cellS_set6 (v : Value) (o : Nat) : (if o = s * 7 + 6 then v else cellS T U Pl V3 V4 V5 V6 o) = cellS T U Pl V3 V4 V5 (upd V6 s v) o := by
  by_cases h : o = s * 7 + 6
  · subst h; rw [if_pos rfl, cellS_at6]; simp [upd]
  · rw [if_neg h]; unfold cellS upd
    by_cases h2 : o % 7 = 6
    · simp only [h2, if_true]; rw [if_neg (show ¬ o / 7 = s by omega)]
    · have h3 : o % 7 < 7 := Nat.mod_lt _ (by omega)
      by_cases h0 : o % 7 = 0
      · rw [if_pos h0, if_pos h0]
      by_cases h1 : o % 7 = 1
      · simp [h1]
      by_cases h2 : o % 7 = 2
      · simp [h2]
      by_cases h3 : o % 7 = 3
      · simp [h3]
      by_cases h4 : o % 7 = 4
      · simp [h4]
      by_cases h5 : o % 7 = 5
      · simp [h5]
      omega
end
def nilV : Nat → Value := fun _ => .slice none 0 0

theorem rowIs_far {w : World} {b : Nat} {t : TypeId} {n : Nat} {f : Nat → Value} (h : w.rowIs b t n f) {w1 : World} {row : Option Nat} (hg : w.grownBy w1 row) (hne : some b ≠ row) : w1.rowIs b t n f := h.of_block (hg.block b h.lt hne)
theorem rowIs_below {w : World} {b : Nat} {t : TypeId} {n : Nat} {f : Nat → Value} (h : w.rowIs b t n f) {w1 : World} (hb : Below w.heap.size w w1) : w1.rowIs b t n f := h.of_block (hb.block b h.lt)

structure Lo1 (w : World) (base S N G : Nat) (cs : List Cp) (k : Nat) : Prop where
  bS : base ≤ S
  bN : base ≤ N
  bG : base ≤ G
  hG : w.heap[G]? = some (.cells #[.slice (some ⟨S, 0, none⟩) (stg cs) (stg cs), .slice (some ⟨N, 0, none⟩) cs.length cs.length, .slice none 0 0] 102 (0, 0))
  hN : w.rowIs N 132 cs.length (fun _ => .pointer none)
  ex : ∃ (T U : Nat → ByteArray) (Pl : Nat → Bool) (V : Nat → Value) (f : Nat → Nat), w.rowIs S 71 (stg cs * 7) (cellS T U Pl V nilV nilV nilV) ∧
    (∀ s, kN0.R 73 w base (fun b => f b = s) (V s) (ngL cs k s)) ∧ (∀ s, ngI cs k s = [] → V s = .slice none 0 0) ∧
    (∀ i, i < k → negB cs i = false → T (stA cs i) = (cpA cs i).f2 ∧ U (stA cs i) = (cpA cs i).f3 ∧ Pl (stA cs i) = (cpA cs i).f1)

theorem Lo1.below {w w1 : World} {base S N G : Nat} {cs : List Cp} {k : Nat} (h : Lo1 w base S N G cs k) (hb : Below w.heap.size w w1) : Lo1 w1 base S N G cs k := by
  obtain ⟨h1, h2, h3, h4, h5, T, U, Pl, V, f, h6, h7, h8, h9⟩ := h
  exact ⟨h1, h2, h3, blk_below h4 hb, rowIs_below h5 hb, T, U, Pl, V, f, rowIs_below h6 hb, fun s => Kd.R_below (h7 s) hb, h8, h9⟩

theorem rowIs_ne {w : World} {b b' : Nat} {t t' : TypeId} {n n' : Nat} {f f' : Nat → Value} (h : w.rowIs b t n f) (h' : w.rowIs b' t' n' f') (ht : t ≠ t') : b ≠ b' := by
  obtain ⟨c, hb, _⟩ := h
  obtain ⟨c', hb', _⟩ := h'
  rintro rfl
  rw [hb] at hb'
  injection hb' with hb'
  injection hb' with _ hb'
  exact ht hb'
theorem rowIs_blk_ne {w : World} {b b' : Nat} {t t' : TypeId} {n : Nat} {f : Nat → Value} {cs : Array Value} (h : w.rowIs b t n f) (h' : w.heap[b']? = some (.cells cs t' (0, 0))) (ht : t ≠ t') : b ≠ b' := by
  obtain ⟨c, hb, _⟩ := h
  rintro rfl
  rw [hb] at h'
  injection h' with h'
  injection h' with _ h'
  exact ht h'
theorem R_ne_row {α : Type} {d : Kd α} {e base : Nat} {w : World} {ok : Nat → Prop} {v : Value} {xs : List α} (h : d.R e w base ok v xs) {b t n : Nat} {f : Nat → Value} (hr : w.rowIs b t n f) (ht : e ≠ t) : some b ≠ v.ownBlock := by
  obtain ⟨c, hb, _⟩ := hr
  exact Kd.R_ne h hb ht
theorem R_set_row {α : Type} {d : Kd α} {e base : Nat} {w : World} {ok : Nat → Prop} {v : Value} {xs : List α} (h : d.R e w base ok v xs) {b t n : Nat} {f : Nat → Value} (hr : w.rowIs b t n f) (ht : ∀ q, q ∈ e :: d.E → q ≠ t) (j : Nat) (u : Value) : d.R e (w.setCell ⟨b, j, none⟩ u) base ok v xs := by
  obtain ⟨c, hb, _⟩ := hr
  exact Kd.R_set h hb ht j u

theorem Lo1.put_neg {W w1 : World} {base S N G : Nat} {cs : List Cp} {k : Nat} {T U : Nat → ByteArray} {Pl : Nat → Bool} {V : Nat → Value} {f : Nat → Nat} {v1 : Value}
    (bS : base ≤ S) (bN : base ≤ N) (bG : base ≤ G)
    (hG : W.heap[G]? = some (.cells #[.slice (some ⟨S, 0, none⟩) (stg cs) (stg cs), .slice (some ⟨N, 0, none⟩) cs.length cs.length, .slice none 0 0] 102 (0, 0)))
    (hN : W.rowIs N 132 cs.length (fun _ => .pointer none))
    (hS : W.rowIs S 71 (stg cs * 7) (cellS T U Pl V nilV nilV nilV))
    (hV : ∀ s, kN0.R 73 W base (fun b => f b = s) (V s) (ngL cs k s)) (hE : ∀ s, ngI cs k s = [] → V s = .slice none 0 0)
    (hT : ∀ i, i < k → negB cs i = false → T (stA cs i) = (cpA cs i).f2 ∧ U (stA cs i) = (cpA cs i).f3 ∧ Pl (stA cs i) = (cpA cs i).f1)
    (hneg : negB cs k = true) (hk : k < cs.length)
    (hg : W.grownBy w1 (V (stA cs k)).ownBlock)
    (hR : kN0.R 73 w1 base (fun b => (if W.heap.size ≤ b then stA cs k else f b) = stA cs k) v1 (ngL cs k (stA cs k) ++ [ngOf cs k])) :
    Lo1 (w1.setCell ⟨S, stA cs k * 7 + 3, none⟩ v1) base S N G cs (k + 1) := by
  have hSn := R_ne_row (hV (stA cs k)) hS (by decide)
  have hNn := R_ne_row (hV (stA cs k)) hN (by decide)
  have hGn := Kd.R_ne (hV (stA cs k)) hG (by decide)
  have hS1 := rowIs_far hS hg hSn
  have hN1 := rowIs_far hN hg hNn
  have hG1 := blk_grown hG hg hGn
  refine ⟨bS, bN, bG, blk_far hG1 (p := ⟨S, stA cs k * 7 + 3, none⟩) (fun h => rowIs_blk_ne hS1 hG1 (by decide) h.symm) _, hN1.setOther (a := ⟨S, stA cs k * 7 + 3, none⟩) (fun h => rowIs_ne hS1 hN1 (by decide) h.symm) _, T, U, Pl, upd V (stA cs k) v1, fun b => if W.heap.size ≤ b then stA cs k else f b, ?_, ?_, ?_, ?_⟩
  · exact (hS1.set (stA cs k * 7 + 3) v1).congr (fun i _ => cellS_set3 _ _ _ _ _ _ _ _ _ _)
  · intro s
    unfold upd
    by_cases hs : s = stA cs k
    · subst hs
      rw [if_pos rfl]
      have he : ngL cs (k + 1) (stA cs k) = ngL cs k (stA cs k) ++ [ngOf cs k] := by
        unfold ngL; rw [ngI_succ, hneg]; simp
      rw [he]
      exact R_set_row hR hS1 (by intro q hq; simp [kN0] at hq; omega) _ _
    · rw [if_neg hs]
      have he : ngL cs (k + 1) s = ngL cs k s := by
        unfold ngL; rw [ngI_succ]; simp [show ¬ stA cs k = s from fun h => hs h.symm]
      rw [he]
      have h1 := Kd.R_mono (Kd.R_bound (hV s)) (ok' := fun b => f b = s ∧ b < W.heap.size) (fun b hb => ⟨hb.1, hb.2.2.1⟩)
      have h2 := Kd.R_grown h1 hg (fun b hb he => by have := (hV (stA cs k)).1 b he.symm; simp at this; omega)
      exact Kd.R_mono (R_set_row h2 hS1 (by intro q hq; simp [kN0] at hq; omega) _ _) (fun b hb => by show (if W.heap.size ≤ b then stA cs k else f b) = s; rw [if_neg (by omega)]; exact hb.1)
  · intro s hs
    rw [ngI_succ] at hs
    have h1 := List.append_eq_nil_iff.1 hs
    have : s ≠ stA cs k := by
      rintro rfl
      have := h1.2
      rw [hneg] at this
      simp at this
    unfold upd
    rw [if_neg this]
    exact hE s h1.1
  · intro i hi hni
    refine hT i ?_ hni
    rcases Nat.lt_or_ge i k with h | h
    · exact h
    · have : i = k := by omega
      subst this
      rw [hneg] at hni
      exact absurd hni (by decide)

theorem Lo1.put_pos {W : World} {base S N G : Nat} {cs : List Cp} {k : Nat} (h : Lo1 W base S N G cs k) (hpos : negB cs k = false) (hk : k < cs.length) :
    Lo1 (((W.setCell ⟨S, stA cs k * 7, none⟩ (.string (cpA cs k).f2)).setCell ⟨S, stA cs k * 7 + 1, none⟩ (.string (cpA cs k).f3)).setCell ⟨S, stA cs k * 7 + 2, none⟩ (.bool (cpA cs k).f1)) base S N G cs (k + 1) := by
  obtain ⟨bS, bN, bG, hG, hN, T, U, Pl, V, f, hS, hV, hE, hT⟩ := h
  have ngk : ∀ s, ngI cs (k + 1) s = ngI cs k s := by intro s; rw [ngI_succ, hpos]; simp
  have e1 := (hS.set (stA cs k * 7) (.string (cpA cs k).f2)).congr (fun i _ => cellS_set0 _ _ _ _ _ _ _ _ _ _)
  have e2 := (e1.set (stA cs k * 7 + 1) (.string (cpA cs k).f3)).congr (fun i _ => cellS_set1 _ _ _ _ _ _ _ _ _ _)
  have e3 := (e2.set (stA cs k * 7 + 2) (.bool (cpA cs k).f1)).congr (fun i _ => cellS_set2 _ _ _ _ _ _ _ _ _ _)
  have n0 : N ≠ S := fun h => rowIs_ne hS hN (by decide) h.symm
  have g0 : G ≠ S := fun h => rowIs_blk_ne hS hG (by decide) h.symm
  refine ⟨bS, bN, bG, blk_far (blk_far (blk_far hG (p := ⟨S, stA cs k * 7, none⟩) g0 _) (p := ⟨S, stA cs k * 7 + 1, none⟩) g0 _) (p := ⟨S, stA cs k * 7 + 2, none⟩) g0 _, ((hN.setOther (a := ⟨S, stA cs k * 7, none⟩) n0 _).setOther (a := ⟨S, stA cs k * 7 + 1, none⟩) n0 _).setOther (a := ⟨S, stA cs k * 7 + 2, none⟩) n0 _, _, _, _, V, f, e3, ?_, ?_, ?_⟩
  · intro s
    unfold ngL
    rw [ngk s]
    refine R_set_row (R_set_row (R_set_row (hV s) hS ?_ _ _) e1 ?_ _ _) e2 ?_ _ _ <;> (intro q hq; simp [kN0] at hq; omega)
  · intro s hs
    rw [ngk] at hs
    exact hE s hs
  · intro i hi hni
    unfold upd
    rcases Nat.lt_or_ge i k with h | h
    · have := stA_pos cs i k h (by omega) hni
      rw [if_neg (by omega), if_neg (by omega), if_neg (by omega)]
      exact hT i h hni
    · have : i = k := by omega
      subst this
      simp
end Go.Proofs.Ytgnifglolbfamaa
