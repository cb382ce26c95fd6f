/- The law's own words: comp, stage. -/
import Derived.Test.YtgnifglolbfamaaPlJ
import Derived.Lib.Strings
set_option linter.unusedVariables false
set_option linter.unusedSimpArgs false
namespace Go.Proofs.Ytgnifglolbfamaa
open Go.RowKit Go.Proofs.YtgnifglolbfamaaW.PrintWords

theorem vix_take (cs : List Cp) (s : List UInt8) (k : Nat) (hk : k < cs.length) (h : vix (cs.take k) s = none) (he : s = cs[k].f3.data.toList) : vix cs s = some (k : Int) := by
  have : ∀ (a : List Cp) (c : Cp) (b : List Cp), vix a s = none → s = c.f3.data.toList → vix (a ++ c :: b) s = some (a.length : Int) := by
    intro a
    induction a with
    | nil => intro c b _ he; simp [vix, he]
    | cons x a ih =>
      intro c b hn he
      simp only [vix] at hn
      split at hn
      · exact absurd hn (by simp)
      · rename_i hne
        simp only [List.cons_append, vix]
        rw [if_neg hne, ih c b (by simpa using hn) he]
        simp
  have h2 := this (cs.take k) cs[k] (cs.drop (k + 1)) h he
  rw [List.length_take, Nat.min_eq_left (by omega)] at h2
  rw [← h2]
  congr 1
  rw [← List.drop_eq_getElem_cons hk, List.take_append_drop]
theorem bytes_beq (a b : ByteArray) : (a.toList == b.toList) = true ↔ b.data.toList = a.data.toList := by
  rw [Lib.toList_data, Lib.toList_data]
  simp
  exact eq_comm

set_option maxHeartbeats 2000000 in
set_option maxRecDepth 100000 in
theorem comp_any (cs : List Cp) (A : Option Addr) (c : Nat) (q1 : ByteArray) (q2 : Int) (v3 v4 : Value) (q5 : Int) (q6 : ByteArray) (v7 : Value) (h3 : v3.oneCell' = true) (h4 : v4.oneCell' = true) (h7 : v7.oneCell' = true) (s : ByteArray) (w : World)
    (hC : kCp.C w A cs.length cs) :
    Calls Try.prog 13 #[.agg #[.slice A cs.length c, .string q1, .int .i64 q2, v3, v4, .int .i64 q5, .string q6, v7], .string s] w fun e w' => e = .returned (.int .i64 ((vix cs s.data.toList).getD (-1))) ∧ Below w.heap.size w w' := by
  obtain ⟨res, hres⟩ : ∃ res, res = (vix cs s.data.toList).getD (-1) := ⟨_, rfl⟩
  rw [← hres]
  have HRES := Lib.hid hres
  have HC := Lib.hid hC
  have hmx := hC.2.1
  clear hres hC
  go_enter Try.func13, Try.ntmps13
  go_wp2_with fail
  go_loopw [5] (fun t5 wr => ∃ k : Nat, k ≤ cs.length ∧ t5 = .int .i64 k ∧ Hid (wr = w.alloc (.cells #[.slice A cs.length c, .string q1, .int .i64 q2, v3, v4, .int .i64 q5, .string q6, v7] 27)) ∧ Hid (vix (cs.take k) s.data.toList = none)) (fun t5 _ => cs.length - (intOf t5).toNat)
  case atStart => exact ⟨0, by omega, rfl, Lib.hid rfl, Lib.hid rfl⟩
  case round =>
    obtain ⟨k, hk, rfl, hw, hO⟩ := hrel
    have hB : Below w.heap.size w wr := by rw [hw.out]; exact below_new _ _
    have hQ : wr.heap[w.heap.size]? = some (.cells #[.slice A cs.length c, .string q1, .int .i64 q2, v3, v4, .int .i64 q5, .string q6, v7] 27 (0, 0)) := by rw [hw.out]; exact blk_new _ _
    have q0 := (blk_cell hQ 0).trans rfl
    by_cases hlt : k < cs.length
    · obtain ⟨ad, rfl, c0, c1, c2, c3⟩ := atCpN HC.out k hlt hlt
      have i1 : (0 : Int) ≤ (k : Int) := by omega
      have i2 : (k : Int) < cs.length := by omega
      have c3 := pw_cell_below hB c3
      have HT := Lib.hid (show vix (cs.take (k + 1)) s.data.toList = if s.data.toList = cs[k].f3.data.toList then some (k : Int) else none by
        rw [List.take_succ_eq_append_getElem hlt, vix_snoc, hO.out, List.length_take, Nat.min_eq_left (by omega)]; rfl)
      have HV := Lib.hid (vix_take cs s.data.toList k hlt hO.out)
      generalize cs[k].f3 = y at *
      clear c0 c1 c2
      rcases Bool.eq_false_or_eq_true (y.toList == s.toList) with d | d
      · have HE := Lib.hid (show res = (k : Int) by rw [HRES.out, HV.out ((bytes_beq y s).1 d)]; rfl)
        go_wp2_with fail
        go_ret
        exact ⟨by rw [HE.out]; rfl, hB⟩
      · have HE := Lib.hid (show ¬ s.data.toList = y.data.toList from fun h => by rw [(bytes_beq y s).2 h] at d; exact absurd d (by simp))
        go_wp2_with fail
        go_roundw
        case rel => exact ⟨k + 1, by omega, by go_num, hw, Lib.hid (by rw [HT.out, if_neg HE.out])⟩
        case measure => simp [intOf]; omega
    · have hO2 := hO.out
      rw [List.take_of_length_le (by omega)] at hO2
      have HE := Lib.hid (show res = -1 by rw [HRES.out, hO2]; rfl)
      go_wp2_with fail
      go_ret
      exact ⟨by rw [HE.out]; rfl, hB⟩

set_option maxHeartbeats 2000000 in
set_option maxRecDepth 100000 in
theorem stage_any (cs : List Cp) (A : Option Addr) (c : Nat) (q1 : ByteArray) (q2 : Int) (v3 v4 : Value) (q5 : Int) (q6 : ByteArray) (v7 : Value) (h3 : v3.oneCell' = true) (h4 : v4.oneCell' = true) (h7 : v7.oneCell' = true) (n : Nat) (hn : n ≤ cs.length) (w : World)
    (hC : kCp.C w A cs.length cs) :
    Calls Try.prog 14 #[.agg #[.slice A cs.length c, .string q1, .int .i64 q2, v3, v4, .int .i64 q5, .string q6, v7], .int .i64 n] w fun e w' => e = .returned (.int .i64 (stg (cs.take n) : Nat)) ∧ Below w.heap.size w w' := by
  obtain ⟨res, hres⟩ : ∃ res, res = stg (cs.take n) := ⟨_, rfl⟩
  rw [← hres]
  have HRES := Lib.hid hres
  have HC := Lib.hid hC
  have hmx := hC.2.1
  clear hres hC
  go_enter Try.func14, Try.ntmps14
  go_wp2_with fail
  go_loopw [5, 6] (fun t5 t6 wr => ∃ k st : Nat, k ≤ n ∧ st ≤ k ∧ t6 = .int .i64 k ∧ t5 = .int .i64 st ∧ Hid (wr = w.alloc (.cells #[.slice A cs.length c, .string q1, .int .i64 q2, v3, v4, .int .i64 q5, .string q6, v7] 27)) ∧ Hid (st = stg (cs.take k))) (fun _ t6 _ => n - (intOf t6).toNat)
  case atStart => exact ⟨0, 0, by omega, by omega, rfl, rfl, Lib.hid rfl, Lib.hid rfl⟩
  case round =>
    obtain ⟨k, st, hk, hst, rfl, rfl, hw, hO⟩ := hrel
    have hB : Below w.heap.size w wr := by rw [hw.out]; exact below_new _ _
    have hQ : wr.heap[w.heap.size]? = some (.cells #[.slice A cs.length c, .string q1, .int .i64 q2, v3, v4, .int .i64 q5, .string q6, v7] 27 (0, 0)) := by rw [hw.out]; exact blk_new _ _
    have q0 := (blk_cell hQ 0).trans rfl
    by_cases hlt : k < n
    · obtain ⟨ad, rfl, c0, c1, c2, c3⟩ := atCpN HC.out k (by omega) (by omega)
      have i0 : (0 : Int) ≤ (k : Int) := by omega
      have i1 : (k : Int) < n := by omega
      have i2 : (k : Int) < cs.length := by omega
      have c0 := pw_cell_below hB c0
      have HT := Lib.hid (show stg (cs.take (k + 1)) = st + (if cs[k].f0 then 0 else 1) by
        rw [List.take_succ_eq_append_getElem (by omega), stg_append, hO.out]; simp [stg])
      generalize cs[k].f0 = y at *
      clear c1 c2 c3
      cases y with
      | true =>
        go_wp2_with fail
        go_roundw
        case rel => exact ⟨k + 1, st, by omega, by omega, by go_num, rfl, hw, Lib.hid (by rw [HT.out]; rfl)⟩
        case measure => simp [intOf]; omega
      | false =>
        go_wp2_with fail
        go_roundw
        case rel => exact ⟨k + 1, st + 1, by omega, by omega, by go_num, by go_num, hw, Lib.hid (by rw [HT.out]; rfl)⟩
        case measure => simp [intOf]; omega
    · obtain rfl : k = n := by omega
      have HE := Lib.hid (show res = st by rw [HRES.out, hO.out])
      go_wp2_with fail
      go_ret
      exact ⟨by rw [HE.out]; rfl, hB⟩
end Go.Proofs.Ytgnifglolbfamaa
