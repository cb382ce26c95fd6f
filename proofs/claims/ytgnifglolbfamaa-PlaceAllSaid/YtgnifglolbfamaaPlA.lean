/- The walk of tree.spoken: the references and functions of an expression. -/
import Derived.Test.YtgnifglolbfamaaTy
import Derived.WalkKit
import Derived.WalkSpells
import Derived.WalkLawsBesides
import Derived.Deep.QuietTactic
import Derived.BigQuiet
import Derived.Lib.Hide
import Derived.Deep.RegionHeld3
import Derived.Deep.DrawnRows
import Derived.Deep.DeepMust
import Derived.Deep.DeepCutAuto
import Derived.Deep.AppendLies
set_option linter.unusedVariables false
set_option linter.unusedSimpArgs false
namespace Go.Proofs.Ytgnifglolbfamaa
open Go.RowKit Go.Proofs.YtgnifglolbfamaaW.PrintWords

/-- An expression's cells, its Kids' slice as it is. -/
def cells10 (x : Ex) (v : Value) : List Value := [.int .i64 x.f0, .int .i64 x.f1, .int .i64 x.f2.f0, .int .i64 x.f2.f1, .string x.f2.f2, .bool x.f2.f3, .string x.f3, .int .i64 x.f4, .string x.f5, v]
def SpR (x : Ex) (cs : List Value) : Prop := ∃ A n c, cs = cells10 x (.slice A n c)
def kSp : Kd Ex where
  sz := 10
  E := []
  K _ x cs := SpR x cs
  M _ _ _ x cs := SpR x cs
  K_len := by rintro _ _ _ ⟨A, n, c, rfl⟩; rfl
  K_one := by rintro _ _ _ ⟨A, n, c, rfl⟩ u hu; simp [cells10] at hu; rcases hu with rfl | rfl | rfl | rfl | rfl | rfl | rfl | rfl | rfl | rfl <;> rfl
  K_below := fun _ h => h
  K_of_M := fun h => h
  M_mono := fun _ h => h
  M_bound := fun h => h
  M_move := fun _ h => h
  M_lower := fun _ h => h

mutual
def spk : Ex → List Ex
  | ⟨k, o, v, vr, at_, attr, kids⟩ => if k = 1 then [] else if k = 2 ∨ k = 3 then [⟨k, o, v, vr, at_, attr, kids⟩] else spkL kids
def spkL : List Ex → List Ex
  | [] => []
  | x :: xs => spk x ++ spkL xs
end
mutual
def exN : Ex → Nat
  | ⟨_, _, _, _, _, _, kids⟩ => exNL kids + 1
def exNL : List Ex → Nat
  | [] => 0
  | x :: xs => exN x + exNL xs
end
theorem spk_eq (x : Ex) : spk x = if x.f0 = 1 then [] else if x.f0 = 2 ∨ x.f0 = 3 then [x] else spkL x.f6 := by cases x; simp only [spk]
theorem exN_eq (x : Ex) : exN x = exNL x.f6 + 1 := by cases x; simp only [exN]
theorem spkL_append : ∀ (a b : List Ex), spkL (a ++ b) = spkL a ++ spkL b
  | [], b => by simp [spkL]
  | x :: a, b => by simp only [List.cons_append, spkL, spkL_append a b, List.append_assoc]
theorem exNL_append : ∀ (a b : List Ex), exNL (a ++ b) = exNL a + exNL b
  | [], b => by simp [exNL]
  | x :: a, b => by simp only [List.cons_append, exNL, exNL_append a b]; omega
mutual
theorem spk_len : ∀ x : Ex, (spk x).length ≤ exN x
  | ⟨k, o, v, vr, at_, attr, kids⟩ => by
    have := spkL_len kids
    simp only [spk, exN]
    split
    · simp
    · split
      · simp
      · omega
theorem spkL_len : ∀ xs : List Ex, (spkL xs).length ≤ exNL xs
  | [] => by simp [spkL, exNL]
  | x :: xs => by have := spk_len x; have := spkL_len xs; simp only [spkL, exNL, List.length_append]; omega
end
theorem spkL_take (l : List Ex) (k : Nat) (h : k < l.length) : spkL (l.take (k + 1)) = spkL (l.take k) ++ spk l[k] := by
  rw [List.take_succ_eq_append_getElem h, spkL_append]
  simp [spkL]
theorem exNL_take (l : List Ex) (k : Nat) : exNL (l.take k) ≤ exNL l := by
  conv => rhs; rw [← List.take_append_drop k l, exNL_append]
  omega
theorem exN_get (l : List Ex) (k : Nat) (h : k < l.length) : exN l[k] ≤ exNL l := by
  have := exNL_take l (k + 1)
  rw [List.take_succ_eq_append_getElem h, exNL_append] at this
  simp [exNL] at this
  omega
theorem rdEx_get (l : List Ex) (k : Nat) (h : k < l.length) : rdEx l (k : Int) = l[k] := by
  simp [rdEx, List.getD_eq_getElem?_getD, List.getElem?_eq_getElem h]

/-- An expression as it is handed over. -/
def exV (x : Ex) (v : Value) : Value := .agg #[.int .i64 x.f0, .int .i64 x.f1, .int .i64 x.f2.f0, .int .i64 x.f2.f1, .string x.f2.f2, .bool x.f2.f3, .string x.f3, .int .i64 x.f4, .string x.f5, v]
def SpPost (L : List Ex) (w : World) (e : Ending) (w' : World) : Prop := Below w.heap.size w w' ∧ ∃ v, e = .returned v ∧ kSp.R 31 w' w.heap.size (fun _ => True) v L

theorem below_new (w : World) (o : Obj) : Below w.heap.size w (w.alloc o) := (Below.refl _ _).alloc (Nat.le_refl _) o
theorem alloc_size' (w : World) (o : Obj) : (w.alloc o).heap.size = w.heap.size + 1 := by simp
theorem R_lit1 (W : World) (g : Nat) (base : Nat) (x : Ex) (A : Option Addr) (n c : Nat) (hb : base ≤ W.heap.size) (hg : g = W.heap.size) :
    kSp.R 31 (W.alloc (.cells (cells10 x (.slice A n c)).toArray 31)) base (fun _ => True) (.slice (some ⟨g, 0, none⟩) 1 1) [x] := by
  subst hg
  refine ⟨fun _ _ => trivial, ?_⟩
  have hr : Reps (fun (x : Ex) (cs : List Value) => SpR x cs) 10 [x] (cells10 x (.slice A n c)) :=
    Reps.snoc (Reps.none _ _) ⟨A, n, c, rfl⟩ rfl
  exact OwnRow.lit W base hr hb (by simp)

set_option maxHeartbeats 2000000 in
set_option maxRecDepth 100000 in
theorem spoken_any : ∀ (m : Nat) (x : Ex) (A : Option Addr) (c : Nat) (w : World), exN x ≤ m → exN x ≤ 100000000000 → x.f6.length ≤ c → kEx.C w A x.f6.length x.f6 →
    Calls Try.prog 40 #[exV x (.slice A x.f6.length c)] w (SpPost (spk x) w) := by
  intro m
  induction m with
  | zero => intro x A c w h; rw [exN_eq] at h; omega
  | succ m ih =>
    intro x A c w hm hN hc hC
    have hS := spk_eq x
    generalize spk x = L at *
    rw [exN_eq] at hm hN
    by_cases h1 : x.f0 = 1
    · rw [if_pos h1] at hS
      subst hS
      have d1 : (x.f0 == 1) = true := by simpa using h1
      unfold exV
      go_enter Try.func40, Try.ntmps40
      go_wp2_with fail
      go_ret
      exact ⟨by first | exact below_alloc' _ | exact Below.refl _ _ | exact (Below.refl _ _).alloc (Nat.le_refl _) _, _, rfl, Kd.R_nil _ _ _ _ _⟩
    · rw [if_neg h1] at hS
      have d1 : (x.f0 == 1) = false := by simpa using h1
      by_cases h2 : x.f0 = 2 ∨ x.f0 = 3
      · rw [if_pos h2] at hS
        subst hS
        have hcase : (∃ u : Unit, (x.f0 == 2) = true) ∨ ((x.f0 == 2) = false ∧ (x.f0 == 3) = true) := by
          by_cases h : x.f0 = 2
          · exact Or.inl ⟨(), by simpa using h⟩
          · exact Or.inr ⟨by simpa using h, by simpa using h2.resolve_left h⟩
        clear h1 h2
        unfold exV
        rcases hcase with ⟨_, d2⟩ | ⟨d2, d3⟩
        all_goals
          go_enter Try.func40, Try.ntmps40
          go_wp2_with fail
          go_ret
          exact ⟨below_step (below_new _ _) (below_new _ _), _, rfl, R_lit1 (w.alloc _) _ w.heap.size x _ _ _ (below_new _ _).size (alloc_size' _ _).symm⟩
      · rw [if_neg h2] at hS
        have d2 : (x.f0 == 2) = false := by simp; omega
        have d3 : (x.f0 == 3) = false := by simp; omega
        have HS := Lib.hid hS
        have hmx := hC.2.1
        have HC := Lib.hid hC
        clear h1 h2 hS hC
        unfold exV
        go_enter Try.func40, Try.ntmps40
        go_wp2_with fail
        go_loopw [3, 18] (fun t3 t18 wr => ∃ k : Nat, k ≤ x.f6.length ∧ t18 = .int .i64 k ∧ Below w.heap.size w wr ∧ Hid (kSp.R 31 wr w.heap.size (fun _ => True) t3 (spkL (x.f6.take k)))) (fun _ t18 _ => x.f6.length - (intOf t18).toNat)
        case atStart => exact ⟨0, by omega, rfl, below_new _ _, Lib.hid (Kd.R_nil _ _ _ _ _)⟩
        case round =>
          obtain ⟨k, hk, rfl, hB, hO⟩ := hrel
          have hsz := hB.size
          by_cases hlt : k < x.f6.length
          · have i1 : (0 : Int) ≤ (k : Int) := by omega
            have i2 : (k : Int) < x.f6.length := by omega
            have hat := atEx HC.out k i1 i2
            simp only [Int.toNat_natCast] at hat
            obtain ⟨ad, B9, b9, rfl, e0, e1, e2, e3, e4, e5, e6, e7, e8, e9, hl9, hi9⟩ := hat
            have e0 := pw_cell_below hB e0
            have e1 := pw_cell_below hB e1
            have e2 := pw_cell_below hB e2
            have e3 := pw_cell_below hB e3
            have e4 := pw_cell_below hB e4
            have e5 := pw_cell_below hB e5
            have e6 := pw_cell_below hB e6
            have e7 := pw_cell_below hB e7
            have e8 := pw_cell_below hB e8
            have e9 := pw_cell_below hB e9
            have HR := Lib.hid (rdEx_get x.f6 k hlt)
            generalize rdEx x.f6 k = y at *
            have HL := Lib.hid hl9
            have HI := Lib.hid hi9
            clear hl9 hi9
            go_wp2_with fail
            have hyN : exN y ≤ exNL x.f6 := by rw [HR.out]; exact exN_get _ _ hlt
            have hT := spkL_len (x.f6.take k)
            have hT2 := exNL_take x.f6 k
            have hT3 := spk_len y
            have HT := Lib.hid (spkL_take x.f6 k hlt)
            rw [← HR.out] at HT
            generalize hxs : spkL (x.f6.take k) = xs at *
            have hle : (xs.length + (spk y).length) * 120 ≤ 140737488355328 := by omega
            refine (ih y B9 b9 _ (by omega) (by omega) HL.out (Kd.C_below (Kd.C_below HI.out hB) (below_new _ _))).mono ?_
            rintro e W1 ⟨hb1, v1, rfl, hr1⟩
            have hO1 := Kd.R_below (Kd.R_below hO.out (below_new _ _)) hb1
            have hB1 := below_step (below_step hB (below_new _ _)) hb1
            obtain ⟨A1, c1, rfl, hc1, hC1⟩ := Kd.R_reads hr1
            have hO := Lib.hid hO1
            have HC1 := Lib.hid hC1
            clear hO1 hC1 hr1 hb1 hyN hT hT2 hT3 hxs
            go_wp2_with (at_builtin; go_must (refine Kd.R_append_rows kSp (Rr := SpR) (w0 := w) (W := W1) w.heap.size (by rfl) _ _ 24 31 _ 120 (by rfl) Try.underlying24 infoEx (by rfl) (by decide) (by omega) u3 xs (spk y) A1 _ _ (fun _ => True) (fun _ => False) (by rfl) (by rfl) hO.out HC1.out (fun _ _ h => h) (fun _ h => h.elim) (fun _ _ => trivial) hB1 hB1.size hle ?_))
            intro v2 w2 hR2 hB2 _ _
            go_wp2_with fail
            go_roundw
            case rel => exact ⟨k + 1, by omega, by go_num, hB2, Lib.hid (by rw [HT.out]; exact hR2)⟩
            case measure => simp [intOf]; omega
          · go_wp2_with fail
            go_ret
            have h := hO.out
            rw [List.take_of_length_le (by omega), ← HS.out] at h
            exact ⟨hB, _, rfl, h⟩
end Go.Proofs.Ytgnifglolbfamaa
