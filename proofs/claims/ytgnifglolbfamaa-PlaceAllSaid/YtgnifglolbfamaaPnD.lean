/- The law's own word: listed. -/
import Derived.Test.YtgnifglolbfamaaPnF
set_option linter.unusedVariables false
set_option linter.unusedSimpArgs false
namespace Go.Proofs.Ytgnifglolbfamaa
open Go.RowKit Go.Proofs.YtgnifglolbfamaaW.PrintWords

theorem names_inj : ∀ (cs : List Cp), dup cs = false → ∀ i j, i < j → j < cs.length → (cpA cs i).f3.data.toList ≠ (cpA cs j).f3.data.toList
  | [], _, i, j, _, h => by simp at h
  | c :: cs, hd, i, j, hij, hj => by
    simp only [dup, Bool.or_eq_false_iff] at hd
    obtain ⟨h1, h2⟩ := hd
    rcases i with _ | i
    · rcases j with _ | j
      · omega
      · intro e
        have hno : ∀ (l : List Cp) (s : List UInt8) (j : Nat), j < l.length → s = (cpA l j).f3.data.toList → (vix l s).isSome = true := by
          intro l
          induction l with
          | nil => intro s j h; simp at h
          | cons x l ih =>
            intro s j h he
            simp only [vix]
            split
            · rfl
            · rename_i hne
              rcases j with _ | j
              · exact absurd he hne
              · rw [Option.isSome_map]
                exact ih s j (by simpa using h) he
        have := hno cs c.f3.data.toList j (by simpa using hj) e
        rw [h1] at this
        exact absurd this (by decide)
    · rcases j with _ | j
      · omega
      · exact names_inj cs h2 i j (by omega) (by simpa using hj)
theorem names_eq {cs : List Cp} (hd : dup cs = false) {i j : Nat} (hi : i < cs.length) (hj : j < cs.length) (h : (cpA cs i).f3.data.toList = (cpA cs j).f3.data.toList) : i = j := by
  rcases Nat.lt_trichotomy i j with h1 | h1 | h1
  · exact absurd h (names_inj cs hd i j h1 hj)
  · exact h1
  · exact absurd h.symm (names_inj cs hd j i h1 hi)

section
variable {w : World} {base G : Nat} {cs : List Cp} {L : Nat → Nat → List Ex} {S N : Nat} {T U : Nat → ByteArray} {Pl : Nat → Bool} {nb cap : Nat → Nat} {junk V : Nat → Nat → Value} {f : Nat → Nat}
set_option maxHeartbeats 4000000 in
set_option maxRecDepth 100000 in
theorem listed_any (h : LayIn w base G cs L S N T U Pl nb cap junk V f) (A : Option Addr) (c : Nat) (q1 : ByteArray) (q2 : Int) (v3 v4 : Value) (q5 : Int) (q6 : ByteArray) (v7 : Value) (h3 : v3.oneCell' = true) (h4 : v4.oneCell' = true) (h7 : v7.oneCell' = true)
    (hC : kCp.C w A cs.length cs) (hdup : dup cs = false) (h8 : cs.length ≤ 8) (hlast : negB cs (cs.length - 1) = false) (k n : Nat) (hv : VP cs k (plI k n)) (hn : k ≠ 4 → n < stg cs) :
    Calls Try.prog 27 #[.agg #[.slice A cs.length c, .string q1, .int .i64 q2, v3, v4, .int .i64 q5, .string q6, v7], .slice (some ⟨S, 0, none⟩) (stg cs) (stg cs), V 5 0, .int .i64 k, .int .i64 n] w fun r w' => r = .returned (V k (plI k n)) ∧ Below w.heap.size w w' := by
  have hst := stg_len cs
  have hb1 := below_new w (.cells #[.slice A cs.length c, .string q1, .int .i64 q2, v3, v4, .int .i64 q5, .string q6, v7] 27)
  have hQ := blk_new w (.cells #[.slice A cs.length c, .string q1, .int .i64 q2, v3, v4, .int .i64 q5, .string q6, v7] 27)
  have hI := h.below hb1
  obtain ⟨A5, c5, e5⟩ := Kd.R_slice (h.hL 5 0 (by decide))
  rw [e5]
  have HE5 := Lib.hid e5
  have k0 := (blk_cell hQ 0).trans rfl
  have i0 : (0 : Int) ≤ (n : Int) := by omega
  have d0 : decide ((n : Int) < 0) = false := decide_eq_false (by omega)
  have HI := Lib.hid hI
  have HQ := Lib.hid hQ
  have HC := Lib.hid (Kd.C_below hC hb1)
  have HHB := Lib.hid hb1
  clear e5 hI hQ hC h hb1
  have fin : ∀ (kk : Nat), (kk = 1 ∨ kk = 2 ∨ kk = 3) → ∃ Av cv, V kk n = .slice Av (L kk n).length cv := by
    intro kk hk
    exact Kd.R_slice (HI.out.hL kk n (by omega))
  rcases hv with ⟨hk, hi⟩ | ⟨rfl, hi, hneg⟩ | ⟨rfl, hi⟩
  · have hk4 : k ≠ 4 := by omega
    have hns := hn hk4
    have i1 : (n : Int) < (stg cs : Int) := by omega
    have d1 : decide ((n : Int) ≥ (stg cs : Int)) = false := decide_eq_false (by omega)
    have d2 : decide ((n : Int) ≥ (cs.length : Int)) = false := decide_eq_false (by omega)
    obtain ⟨Av, cv, ev⟩ := fin k hk
    have hpl : plI k n = n := by unfold plI; rw [if_neg (by omega)]
    rw [hpl, ev]
    rcases hk with rfl | rfl | rfl
    · have m := (HI.out.hS.cell (i := n * 7 + 4) (by omega)).trans (by rw [cellS_at4, ev])
      clear ev fin hn hi
      go_enter Try.func27, Try.ntmps27
      go_wp2_with fail
      go_ret
      exact ⟨rfl, HHB.out⟩
    · have m := (HI.out.hS.cell (i := n * 7 + 5) (by omega)).trans (by rw [cellS_at5, ev])
      clear ev fin hn hi
      go_enter Try.func27, Try.ntmps27
      go_wp2_with fail
      go_ret
      exact ⟨rfl, HHB.out⟩
    · have m := (HI.out.hS.cell (i := n * 7 + 6) (by omega)).trans (by rw [cellS_at6, ev])
      clear ev fin hn hi
      go_enter Try.func27, Try.ntmps27
      go_wp2_with fail
      go_ret
      exact ⟨rfl, HHB.out⟩
  · have hi : n < cs.length := hi
    have hneg : negB cs n = true := hneg
    have d2 : decide ((n : Int) ≥ (cs.length : Int)) = false := decide_eq_false (by omega)
    have d3 : ¬ cs.length ≤ n := by omega
    have hpl : plI 4 n = n := rfl
    obtain ⟨Av, cv, ev⟩ := Kd.R_slice (HI.out.hL 4 n (by decide))
    rw [hpl, ev, show ((4 : Nat) : Int) = 4 from rfl]
    have HEV := Lib.hid ev
    have HNEG := Lib.hid hneg
    have HLAST := Lib.hid hlast
    have HDUP := Lib.hid hdup
    clear ev fin hn hneg hlast hdup
    go_enter Try.func27, Try.ntmps27
    go_wp2_with fail
    generalize w.alloc (.cells #[.slice A cs.length c, .string q1, .int .i64 q2, v3, v4, .int .i64 q5, .string q6, v7] 27) = W1 at *
    go_loopw [11] (fun t11 wr => ∃ s : Nat, s ≤ stg cs ∧ t11 = .int .i64 s ∧ Below W1.heap.size W1 wr ∧ Hid (∀ s' < s, n ∉ ngI cs cs.length s')) (fun t11 _ => stg cs - (intOf t11).toNat)
    case atStart => exact ⟨0, by omega, rfl, Below.refl _ _, Lib.hid (fun s' h => absurd h (by omega))⟩
    case round =>
      obtain ⟨s, hs, rfl, hB, hO⟩ := hrel
      generalize wr = w2 at *
      by_cases hlt : s < stg cs
      · have i1 : (0 : Int) ≤ (s : Int) := by omega
        have i2 : (s : Int) < (stg cs : Int) := by omega
        have hI2 := HI.out.below hB
        have hnv : ∃ Ao cp, nv cs nb cap s = .slice Ao (ngI cs cs.length s).length cp ∧ (ngI cs cs.length s ≠ [] → Ao = some ⟨nb s, 0, none⟩) := by
          unfold nv
          by_cases he : ngI cs cs.length s = []
          · rw [if_pos he, he]; exact ⟨none, 0, rfl, fun h => absurd rfl h⟩
          · rw [if_neg he]; exact ⟨_, _, rfl, fun _ => rfl⟩
        obtain ⟨Ao, cp, env, hao⟩ := hnv
        have m3 := (hI2.hS.cell (i := s * 7 + 3) (by omega)).trans (by rw [cellS_at3, env])
        have HAO := Lib.hid hao
        have HI2 := Lib.hid hI2
        have hnl := ngI_len cs cs.length s
        clear env hao hI2
        go_wp2_with fail
        go_loopw [12] (fun t12 wr => ∃ j : Nat, j ≤ (ngI cs cs.length s).length ∧ t12 = .int .i64 j ∧ Below w2.heap.size w2 wr ∧ Hid (∀ j' < j, (ngI cs cs.length s)[j']? ≠ some n)) (fun t12 _ => (ngI cs cs.length s).length - (intOf t12).toNat)
        case atStart => exact ⟨0, by omega, rfl, Below.refl _ _, Lib.hid (fun j' h => absurd h (by omega))⟩
        case round =>
          obtain ⟨j, hj, rfl, hBi, hOi⟩ := hrel
          have m3r := pw_cell_below hBi m3
          by_cases hlt2 : j < (ngI cs cs.length s).length
          · have j1 : (0 : Int) ≤ (j : Int) := by omega
            have j2 : (j : Int) < ((ngI cs cs.length s).length : Int) := by omega
            have hne : ngI cs cs.length s ≠ [] := by intro e; rw [e] at hlt2; simp at hlt2
            obtain rfl := HAO.out hne
            have hI3 := HI2.out.below hBi
            obtain ⟨_, hcap, hrow⟩ := hI3.hB s hne
            have hget : (ngI cs cs.length s)[j]? = some (ngI cs cs.length s)[j] := List.getElem?_eq_getElem hlt2
            have hmem := ngI_lt (List.getElem_mem hlt2)
            obtain ⟨y, hy⟩ : ∃ y, y = (ngI cs cs.length s)[j] := ⟨_, rfl⟩
            rw [← hy] at hget hmem
            have g1 : wr.cell? ⟨nb s, j * 3 + 1, none⟩ = some (.string (cpA cs y).f3) := by
              rw [hrow.cell (by omega)]
              unfold cellN
              rw [show (j * 3 + 1) / 3 = j from by omega, hget, show (j * 3 + 1) % 3 = 1 from by omega]
              rfl
            have g2 : wr.cell? ⟨nb s, j * 3 + 2, none⟩ = some (V 4 y) := by
              rw [hrow.cell (by omega)]
              unfold cellN
              rw [show (j * 3 + 2) / 3 = j from by omega, hget, show (j * 3 + 2) % 3 = 2 from by omega]
              rfl
            obtain ⟨cd, rfl, c0, c1, c2, c3⟩ := atCpN (Kd.C_below (Kd.C_below HC.out hB) hBi) n hi hi
            have k0r := (blk_cell (blk_below (blk_below HQ.out hB) hBi) 0).trans rfl
            have hnm : cs[n].f3 = (cpA cs n).f3 := by simp [cpA, List.getD_eq_getElem?_getD, List.getElem?_eq_getElem hi]
            rw [hnm] at c3
            have n1 : (n : Int) < (cs.length : Int) := by omega
            have HGET := Lib.hid hget
            have HY := Lib.hid hmem
            clear c0 c1 c2 hnm hy hrow hget hmem
            cases hq : ((cpA cs y).f3.toList == (cpA cs n).f3.toList) with
            | true =>
              have hyn : y = n := names_eq HDUP.out HY.out.1 hi (by
                rw [Lib.toList_data, Lib.toList_data] at hq
                simpa using hq)
              subst hyn
              rw [HEV.out] at g2
              go_wp2_with fail
              go_quiet (fail)
              have g2q := pw_cell_below (pw_below_drewN (Below.refl _ _) nq) g2
              have m3q := pw_cell_below (pw_below_drewN (Below.refl _ _) nq) m3r
              go_wp2_with fail
              go_ret
              exact ⟨rfl, pw_below_drewN (below_step (below_step HHB.out hB) hBi) _⟩
            | false =>
              have hyn : y ≠ n := by
                rintro rfl
                simp at hq
              have HO3 := Lib.hid (show ∀ j' < j + 1, (ngI cs cs.length s)[j']? ≠ some n by
                intro j' h
                rcases Nat.lt_or_ge j' j with h1 | h1
                · exact hOi.out j' h1
                · have : j' = j := by omega
                  subst this
                  rw [HGET.out]
                  intro e
                  injection e with e
                  exact hyn e)
              go_wp2_with fail
              go_quiet (fail)
              go_wp2_with fail
              go_roundw
              case rel => exact ⟨j + 1, by omega, by go_num, pw_below_drewN hBi _, HO3⟩
              case measure => simp [intOf]; omega
          · have HO3 := Lib.hid (show ∀ s' < s + 1, n ∉ ngI cs cs.length s' by
              intro s' h hm
              rcases Nat.lt_or_ge s' s with h1 | h1
              · exact hO.out s' h1 hm
              · have : s' = s := by omega
                subst this
                obtain ⟨j', hj', e⟩ := List.getElem_of_mem hm
                exact hOi.out j' (by omega) (by rw [List.getElem?_eq_getElem hj', e]))
            go_wp2_with fail
            go_roundw
            case rel => exact ⟨s + 1, by omega, by go_num, below_step hB hBi, HO3⟩
            case measure => simp [intOf]; omega
      · obtain rfl : s = stg cs := by omega
        exact absurd (show n ∈ ngI cs cs.length (stA cs n) by
          unfold ngI
          rw [List.mem_filter, List.mem_range]
          exact ⟨hi, by simp [HNEG.out]⟩) (hO.out _ (stA_lt cs HLAST.out n hi))
  · have hns := hn (by decide)
    have d1 : decide ((n : Int) ≥ (stg cs : Int)) = false := decide_eq_false (by omega)
    have d2 : decide ((n : Int) ≥ (cs.length : Int)) = false := decide_eq_false (by omega)
    rw [show plI 5 n = 0 from rfl, HE5.out]
    clear fin hn hi
    go_enter Try.func27, Try.ntmps27
    go_wp2_with fail
    go_ret
    exact ⟨rfl, HHB.out⟩
end
end Go.Proofs.Ytgnifglolbfamaa
