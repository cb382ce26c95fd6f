import Derived.Test.YtcfgmkmllcfjjaaDoorZImD
import Derived.Laws.Rows
import Derived.LoopIn
set_option linter.unusedVariables false
set_option linter.unusedSimpArgs false
namespace Go.Proofs.YtcfgmkmllcfjjaaDoor
open Go.RowKit Go.Proofs.YtcfgmkmllcfjjaaDoorW.PrintWords Go.Proofs.YtcfgmkmllcfjjaaDoorW.PrintMore PImageForm
def wordsL : List ByteArray := [⟨#[80, 65, 84, 84, 69, 82, 78]⟩, ⟨#[83, 69, 81]⟩, ⟨#[80, 65, 82, 84, 73, 84, 73, 79, 78]⟩, ⟨#[66, 89]⟩, ⟨#[87, 72, 69, 82, 69]⟩, ⟨#[87, 73, 84, 72, 73, 78]⟩, ⟨#[82, 69, 84, 85, 82, 78]⟩, ⟨#[65, 78, 68]⟩, ⟨#[79, 82]⟩, ⟨#[78, 79, 84]⟩, ⟨#[84, 82, 85, 69]⟩, ⟨#[70, 65, 76, 83, 69]⟩, ⟨#[84, 89, 80, 69]⟩, ⟨#[73, 78, 84]⟩, ⟨#[83, 84, 82]⟩, ⟨#[66, 79, 79, 76]⟩]
def wordsV : Array Value := #[.string ⟨#[80, 65, 84, 84, 69, 82, 78]⟩, .string ⟨#[83, 69, 81]⟩, .string ⟨#[80, 65, 82, 84, 73, 84, 73, 79, 78]⟩, .string ⟨#[66, 89]⟩, .string ⟨#[87, 72, 69, 82, 69]⟩, .string ⟨#[87, 73, 84, 72, 73, 78]⟩, .string ⟨#[82, 69, 84, 85, 82, 78]⟩, .string ⟨#[65, 78, 68]⟩, .string ⟨#[79, 82]⟩, .string ⟨#[78, 79, 84]⟩, .string ⟨#[84, 82, 85, 69]⟩, .string ⟨#[70, 65, 76, 83, 69]⟩, .string ⟨#[84, 89, 80, 69]⟩, .string ⟨#[73, 78, 84]⟩, .string ⟨#[83, 84, 82]⟩, .string ⟨#[66, 79, 79, 76]⟩]
def GW (w : World) : Prop := ∃ t fr, w.heap[0]? = some (.cells wordsV t fr)
theorem GW.below {w w' : World} (h : GW w) (hB : Below w.heap.size w w') : GW w' := by
  obtain ⟨t, fr, h⟩ := h
  exact ⟨t, fr, blk_below h hB⟩
def ltB (c : Int) : Bool := (schema_letter.f c).getD false
def ptB (c : Int) : Bool := (schema_part.f c).getD false
theorem ltB_f (c : Int) : schema_letter.f c = some (ltB c) := by
  unfold ltB schema_letter.f
  split <;> split <;> (try split) <;> (try split) <;> rfl
theorem ptB_f (c : Int) : schema_part.f c = some (ptB c) := by
  unfold ptB schema_part.f
  rw [ltB_f]
  simp only [Option.bind_some]
  split <;> (try split) <;> rfl
def nameB (s : ByteArray) : Bool := if h : 0 < s.size then decide (s.size ≤ 32) && ltB (s[0]'h).toNat && (s.data.toList.all fun c => ptB c.toNat) && !(wordsL.any fun u => decide (s = u)) else false
set_option maxRecDepth 100000 in
theorem words_ix0 (W : World) : (Instr.index 77 (.agg wordsV) (.int .i64 0)).run Tryd.prog W = .ok (.string wordsL[0]) W := by kernel_rfl
set_option maxRecDepth 100000 in
theorem words_ix1 (W : World) : (Instr.index 77 (.agg wordsV) (.int .i64 1)).run Tryd.prog W = .ok (.string wordsL[1]) W := by kernel_rfl
set_option maxRecDepth 100000 in
theorem words_ix2 (W : World) : (Instr.index 77 (.agg wordsV) (.int .i64 2)).run Tryd.prog W = .ok (.string wordsL[2]) W := by kernel_rfl
set_option maxRecDepth 100000 in
theorem words_ix3 (W : World) : (Instr.index 77 (.agg wordsV) (.int .i64 3)).run Tryd.prog W = .ok (.string wordsL[3]) W := by kernel_rfl
set_option maxRecDepth 100000 in
theorem words_ix4 (W : World) : (Instr.index 77 (.agg wordsV) (.int .i64 4)).run Tryd.prog W = .ok (.string wordsL[4]) W := by kernel_rfl
set_option maxRecDepth 100000 in
theorem words_ix5 (W : World) : (Instr.index 77 (.agg wordsV) (.int .i64 5)).run Tryd.prog W = .ok (.string wordsL[5]) W := by kernel_rfl
set_option maxRecDepth 100000 in
theorem words_ix6 (W : World) : (Instr.index 77 (.agg wordsV) (.int .i64 6)).run Tryd.prog W = .ok (.string wordsL[6]) W := by kernel_rfl
set_option maxRecDepth 100000 in
theorem words_ix7 (W : World) : (Instr.index 77 (.agg wordsV) (.int .i64 7)).run Tryd.prog W = .ok (.string wordsL[7]) W := by kernel_rfl
set_option maxRecDepth 100000 in
theorem words_ix8 (W : World) : (Instr.index 77 (.agg wordsV) (.int .i64 8)).run Tryd.prog W = .ok (.string wordsL[8]) W := by kernel_rfl
set_option maxRecDepth 100000 in
theorem words_ix9 (W : World) : (Instr.index 77 (.agg wordsV) (.int .i64 9)).run Tryd.prog W = .ok (.string wordsL[9]) W := by kernel_rfl
set_option maxRecDepth 100000 in
theorem words_ix10 (W : World) : (Instr.index 77 (.agg wordsV) (.int .i64 10)).run Tryd.prog W = .ok (.string wordsL[10]) W := by kernel_rfl
set_option maxRecDepth 100000 in
theorem words_ix11 (W : World) : (Instr.index 77 (.agg wordsV) (.int .i64 11)).run Tryd.prog W = .ok (.string wordsL[11]) W := by kernel_rfl
set_option maxRecDepth 100000 in
theorem words_ix12 (W : World) : (Instr.index 77 (.agg wordsV) (.int .i64 12)).run Tryd.prog W = .ok (.string wordsL[12]) W := by kernel_rfl
set_option maxRecDepth 100000 in
theorem words_ix13 (W : World) : (Instr.index 77 (.agg wordsV) (.int .i64 13)).run Tryd.prog W = .ok (.string wordsL[13]) W := by kernel_rfl
set_option maxRecDepth 100000 in
theorem words_ix14 (W : World) : (Instr.index 77 (.agg wordsV) (.int .i64 14)).run Tryd.prog W = .ok (.string wordsL[14]) W := by kernel_rfl
set_option maxRecDepth 100000 in
theorem words_ix15 (W : World) : (Instr.index 77 (.agg wordsV) (.int .i64 15)).run Tryd.prog W = .ok (.string wordsL[15]) W := by kernel_rfl
theorem words_ix (j : Nat) (hj : j < 16) (W : World) : (Instr.index 77 (.agg wordsV) (.int .i64 (j : Int))).run Tryd.prog W = .ok (.string (wordsL[j]'hj)) W := by
  have hc : j = 0 ∨ j = 1 ∨ j = 2 ∨ j = 3 ∨ j = 4 ∨ j = 5 ∨ j = 6 ∨ j = 7 ∨ j = 8 ∨ j = 9 ∨ j = 10 ∨ j = 11 ∨ j = 12 ∨ j = 13 ∨ j = 14 ∨ j = 15 := by omega
  rcases hc with rfl | rfl | rfl | rfl | rfl | rfl | rfl | rfl | rfl | rfl | rfl | rfl | rfl | rfl | rfl | rfl
  · exact words_ix0 W
  · exact words_ix1 W
  · exact words_ix2 W
  · exact words_ix3 W
  · exact words_ix4 W
  · exact words_ix5 W
  · exact words_ix6 W
  · exact words_ix7 W
  · exact words_ix8 W
  · exact words_ix9 W
  · exact words_ix10 W
  · exact words_ix11 W
  · exact words_ix12 W
  · exact words_ix13 W
  · exact words_ix14 W
  · exact words_ix15 W
theorem ne_toList {a b : ByteArray} (h : a ≠ b) : (a.toList == b.toList) = false := by
  apply beq_eq_false_iff_ne.mpr
  intro he
  rw [ByteArray.toList_eq, ByteArray.toList_eq] at he
  exact h (ByteArray.ext (Array.ext' he))
set_option maxRecDepth 100000 in
set_option maxHeartbeats 2000000 in
theorem Name_any (s : ByteArray) (w : World) (hG : GW w) : Calls Tryd.prog 19 #[.string s] w fun e w' => e = .returned (.bool (nameB s)) ∧ Drawn0 w w' := by
  have HG := Lib.hid hG
  by_cases h0 : 0 < s.size
  · have e0 : s.toList.isEmpty = false := by
      rw [ByteArray.toList_eq]
      cases hs : s.data.toList with
      | nil => exact absurd (show s.size = 0 from by show s.data.size = 0; rw [← Array.length_toList, hs]; rfl) (by omega)
      | cons c r => rfl
    have hnE : nameB s = (decide (s.size ≤ 32) && ltB (s[0]'h0).toNat && (s.data.toList.all fun c => ptB c.toNat) && !(wordsL.any fun u => decide (s = u))) := by unfold nameB; rw [dif_pos h0]
    have HN := Lib.hid hnE
    have HL := Lib.hid (show ∀ W, Calls Tryd.prog 30 #[.int .u8 ((s[0]'h0).toNat : Int)] W fun e w' => e = .returned (.bool (ltB (s[0]'h0).toNat)) ∧ Drawn0 W w' from fun W => schema_letter.calls _ _ W (ltB_f _))
    clear hnE hG
    by_cases h32 : s.size ≤ 32
    · have e1 : decide (32 < (s.size : Int)) = false := decide_eq_false (by omega)
      by_cases hL : ltB (s[0]'h0).toNat = true
      · rw [hL] at HL
        have HLt := Lib.hid hL
        clear hL
        go_enter Tryd.func19, Tryd.ntmps19
        go_wp2_with (go_at_call 30; refine (HL.out _).mono ?_; rintro e w1 ⟨rfl, ⟨n1, rfl⟩⟩)
        go_loopw [21] (fun t21 wr => ∃ k : Nat, k ≤ s.size ∧ t21 = .int .i64 k ∧ Drawn0 w wr ∧ Hid (∀ j (hj : j < s.size), j < k → ptB (s[j]'hj).toNat = true)) (fun t21 _ => s.size - (intOf t21).toNat)
        case atStart => exact ⟨0, by omega, rfl, ⟨_, rfl⟩, Lib.hid (by intro j _ h; omega)⟩
        case round =>
          obtain ⟨k, hk, rfl, ⟨n2, rfl⟩, hP⟩ := hrel
          by_cases hlt : k < s.size
          · have i1 : (0 : Int) ≤ (k : Int) := by omega
            have i2 : (k : Int) < s.size := by omega
            have HK := Lib.hid (show ∀ W, Calls Tryd.prog 31 #[.int .u8 ((s[k]'hlt).toNat : Int)] W fun e w' => e = .returned (.bool (ptB (s[k]'hlt).toNat)) ∧ Drawn0 W w' from fun W => schema_part.calls _ _ W (ptB_f _))
            by_cases hq : ptB (s[k]'hlt).toNat = true
            · rw [hq] at HK
              have HQ := Lib.hid hq
              clear hq
              go_wp2_with (go_at_call 31; refine (HK.out _).mono ?_; rintro e w3 ⟨rfl, ⟨n3, rfl⟩⟩)
              go_roundw
              case rel => exact ⟨k + 1, by omega, by go_num, ⟨⟨_, rfl⟩⟩, Lib.hid (fun j hj hjk => if h : j = k then by subst h; exact HQ.out else hP.out j hj (by omega))⟩
              case measure => simp [intOf]; omega
            · have hq' : ptB (s[k]'hlt).toNat = false := by simpa using hq
              rw [hq'] at HK
              have HQ := Lib.hid hq'
              clear hq hq'
              go_wp2_with (go_at_call 31; refine (HK.out _).mono ?_; rintro e w3 ⟨rfl, ⟨n3, rfl⟩⟩)
              go_ret
              have hnf : nameB s = false := by
                rw [HN.out, show (s.data.toList.all fun c => ptB c.toNat) = false from List.all_eq_false.mpr ⟨s[k]'hlt, Array.getElem_mem_toList _, by rw [HQ.out]; decide⟩]
                simp
              rw [hnf]
              exact ⟨rfl, ⟨⟨_, rfl⟩⟩⟩
          · obtain rfl : k = s.size := by omega
            obtain ⟨t, fr, hg⟩ := HG.out
            have hg1 : (w.drewN n2).heap[0]? = some (.cells wordsV t fr) := hg
            go_wp2_with (refine wpList_load_row rfl 77 _ rfl 0 rfl t _ fr _ hg1 Tryd.underlying77 rfl (by kernel_rfl) ?_)
            have hall : (s.data.toList.all fun c => ptB c.toNat) = true := by
              apply List.all_eq_true.mpr
              intro c hc
              obtain ⟨j, hj, rfl⟩ := List.getElem_of_mem hc
              rw [Array.length_toList] at hj
              exact hP.out j hj hj
            have HALL := Lib.hid hall
            clear hP hall
            go_loopw [31] (fun t31 wr => ∃ m : Nat, m ≤ 16 ∧ t31 = .int .i64 m ∧ Drawn0 w wr ∧ Hid (∀ (j : Nat) (hj : j < 16), j < m → s ≠ wordsL[j]'hj)) (fun t31 _ => 16 - (intOf t31).toNat)
            case atStart => exact ⟨0, by omega, rfl, ⟨⟨_, rfl⟩⟩, Lib.hid (by intro j _ h; omega)⟩
            case round =>
              obtain ⟨m, hm, rfl, ⟨n4, rfl⟩, hM⟩ := hrel
              by_cases hlt2 : m < 16
              · have hix := words_ix m hlt2
                have hmem : wordsL[m]'hlt2 ∈ wordsL := List.getElem_mem hlt2
                have HW := Lib.hid (show s ≠ wordsL[m]'hlt2 → ∀ (j : Nat) (hj : j < 16), j < m + 1 → s ≠ wordsL[j]'hj from fun hne j hj hjk => if h : j = m then by subst h; exact hne else hM.out j hj (by omega))
                clear hM
                generalize wordsL[m]'hlt2 = u at *
                by_cases hu : s = u
                · have hnf : nameB s = false := by
                    rw [HN.out, show (wordsL.any fun u => decide (s = u)) = true from List.any_eq_true.mpr ⟨u, hmem, by simpa using hu⟩]
                    simp
                  have HNF := Lib.hid hnf
                  clear hnf hmem HW
                  subst hu
                  go_wp2_with fail
                  go_ret
                  rw [HNF.out]
                  exact ⟨rfl, ⟨⟨_, rfl⟩⟩⟩
                · have hne := ne_toList hu
                  have HW2 := Lib.hid (HW.out hu)
                  clear HW hmem hu
                  go_wp2_with fail
                  go_roundw
                  case rel => exact ⟨m + 1, by omega, by go_num, ⟨⟨_, rfl⟩⟩, HW2⟩
                  case measure => simp [intOf]; omega
              · obtain rfl : m = 16 := by omega
                have hnt : nameB s = true := by
                  have hany : (wordsL.any fun u => decide (s = u)) = false := by
                    apply List.any_eq_false.mpr
                    intro u hu
                    obtain ⟨j, hj, rfl⟩ := List.getElem_of_mem hu
                    simpa using hM.out j hj hj
                  rw [HN.out, hany, HALL.out, HLt.out]
                  simpa using h32
                have HNT := Lib.hid hnt
                clear hnt
                go_wp2_with fail
                go_ret
                rw [HNT.out]
                exact ⟨rfl, ⟨⟨_, rfl⟩⟩⟩
      · have hLf : ltB (s[0]'h0).toNat = false := by simpa using hL
        have hnf : nameB s = false := by
          rw [HN.out, hLf]
          simp
        rw [hLf] at HL
        rw [hnf]
        clear hL hLf hnf HN
        go_enter Tryd.func19, Tryd.ntmps19
        go_wp2_with (go_at_call 30; refine (HL.out _).mono ?_; rintro e w1 ⟨rfl, ⟨n1, rfl⟩⟩)
        go_ret
        exact ⟨rfl, ⟨⟨_, rfl⟩⟩⟩
    · have e1 : decide (32 < (s.size : Int)) = true := decide_eq_true (by omega)
      have hnf : nameB s = false := by
        rw [HN.out, decide_eq_false h32]
        simp
      rw [hnf]
      clear hnf HN
      go_enter Tryd.func19, Tryd.ntmps19
      go_wp2_with fail
      go_ret
      exact ⟨rfl, Drawn0.refl _⟩
  · have e0 : s = ⟨#[]⟩ := by
      apply ByteArray.ext
      apply Array.ext'
      exact List.eq_nil_of_length_eq_zero (by simpa using h0)
    have hn : nameB s = false := by unfold nameB; rw [dif_neg h0]
    rw [hn]
    subst e0
    clear h0 hn hG
    go_enter Tryd.func19, Tryd.ntmps19
    go_wp2_with fail
    go_ret
    exact ⟨rfl, Drawn0.refl _⟩
end Go.Proofs.YtcfgmkmllcfjjaaDoor
