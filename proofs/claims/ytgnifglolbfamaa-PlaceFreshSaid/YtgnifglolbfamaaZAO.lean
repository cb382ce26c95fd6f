/- Texts of the claim, merged in build order: PnD, PnG, QJ. -/
import Derived.Test.YtgnifglolbfamaaZAN
import Derived.Test.YtgnifglolbfamaaZAG
import Derived.Test.YtgnifglolbfamaaZAM
/- The law's own word: listed. -/
set_option linter.unusedVariables false
set_option linter.unusedSimpArgs false
namespace Go.Proofs.Ytgnifglolbfamaa
open Go.RowKit Go.Proofs.YtgnifglolbfamaaW.PrintWords

theorem names_inj : ∀ (cs : List Cp), dup cs = false → ∀ i j, i < j → j < cs.length → (cpA cs i).f3.data.toList ≠ (cpA cs j).f3.data.toList
  | [], _, i, j, _, h => by simp at h
  | c :: cs, hd, i, j, hij, hj => by
    simp only [dup, Bool.or_eq_false_iff] at hd
    obtain ⟨h1, h2⟩ := hd
    rcases i with _ | i
    · rcases j with _ | j
      · omega
      · intro e
        have hno : ∀ (l : List Cp) (s : List UInt8) (j : Nat), j < l.length → s = (cpA l j).f3.data.toList → (vix l s).isSome = true := by
          intro l
          induction l with
          | nil => intro s j h; simp at h
          | cons x l ih =>
            intro s j h he
            simp only [vix]
            split
            · rfl
            · rename_i hne
              rcases j with _ | j
              · exact absurd he hne
              · rw [Option.isSome_map]
                exact ih s j (by simpa using h) he
        have := hno cs c.f3.data.toList j (by simpa using hj) e
        rw [h1] at this
        exact absurd this (by decide)
    · rcases j with _ | j
      · omega
      · exact names_inj cs h2 i j (by omega) (by simpa using hj)
theorem names_eq {cs : List Cp} (hd : dup cs = false) {i j : Nat} (hi : i < cs.length) (hj : j < cs.length) (h : (cpA cs i).f3.data.toList = (cpA cs j).f3.data.toList) : i = j := by
  rcases Nat.lt_trichotomy i j with h1 | h1 | h1
  · exact absurd h (names_inj cs hd i j h1 hj)
  · exact h1
  · exact absurd h.symm (names_inj cs hd j i h1 hi)

section
variable {w : World} {base G : Nat} {cs : List Cp} {L : Nat → Nat → List Ex} {S N : Nat} {T U : Nat → ByteArray} {Pl : Nat → Bool} {nb cap : Nat → Nat} {junk V : Nat → Nat → Value} {f : Nat → Nat}
set_option maxHeartbeats 4000000 in
set_option maxRecDepth 100000 in
theorem listed_any (h : LayIn w base G cs L S N T U Pl nb cap junk V f) (A : Option Addr) (c : Nat) (q1 : ByteArray) (q2 : Int) (v3 v4 : Value) (q5 : Int) (q6 : ByteArray) (v7 : Value) (h3 : v3.oneCell' = true) (h4 : v4.oneCell' = true) (h7 : v7.oneCell' = true)
    (hC : kCp.C w A cs.length cs) (hdup : dup cs = false) (h8 : cs.length ≤ 8) (hlast : negB cs (cs.length - 1) = false) (k n : Nat) (hv : VP cs k (plI k n)) (hn : k ≠ 4 → n < stg cs) :
    Calls Try.prog 27 #[.agg #[.slice A cs.length c, .string q1, .int .i64 q2, v3, v4, .int .i64 q5, .string q6, v7], .slice (some ⟨S, 0, none⟩) (stg cs) (stg cs), V 5 0, .int .i64 k, .int .i64 n] w fun r w' => r = .returned (V k (plI k n)) ∧ Below w.heap.size w w' := by
  have hst := stg_len cs
  have hb1 := below_new w (.cells #[.slice A cs.length c, .string q1, .int .i64 q2, v3, v4, .int .i64 q5, .string q6, v7] 27)
  have hQ := blk_new w (.cells #[.slice A cs.length c, .string q1, .int .i64 q2, v3, v4, .int .i64 q5, .string q6, v7] 27)
  have hI := h.below hb1
  obtain ⟨A5, c5, e5⟩ := Kd.R_slice (h.hL 5 0 (by decide))
  rw [e5]
  have HE5 := Lib.hid e5
  have k0 := (blk_cell hQ 0).trans rfl
  have i0 : (0 : Int) ≤ (n : Int) := by omega
  have d0 : decide ((n : Int) < 0) = false := decide_eq_false (by omega)
  have HI := Lib.hid hI
  have HQ := Lib.hid hQ
  have HC := Lib.hid (Kd.C_below hC hb1)
  have HHB := Lib.hid hb1
  clear e5 hI hQ hC h hb1
  have fin : ∀ (kk : Nat), (kk = 1 ∨ kk = 2 ∨ kk = 3) → ∃ Av cv, V kk n = .slice Av (L kk n).length cv := by
    intro kk hk
    exact Kd.R_slice (HI.out.hL kk n (by omega))
  rcases hv with ⟨hk, hi⟩ | ⟨rfl, hi, hneg⟩ | ⟨rfl, hi⟩
  · have hk4 : k ≠ 4 := by omega
    have hns := hn hk4
    have i1 : (n : Int) < (stg cs : Int) := by omega
    have d1 : decide ((n : Int) ≥ (stg cs : Int)) = false := decide_eq_false (by omega)
    have d2 : decide ((n : Int) ≥ (cs.length : Int)) = false := decide_eq_false (by omega)
    obtain ⟨Av, cv, ev⟩ := fin k hk
    have hpl : plI k n = n := by unfold plI; rw [if_neg (by omega)]
    rw [hpl, ev]
    rcases hk with rfl | rfl | rfl
    · have m := (HI.out.hS.cell (i := n * 7 + 4) (by omega)).trans (by rw [cellS_at4, ev])
      clear ev fin hn hi
      go_enter Try.func27, Try.ntmps27
      go_wp2_with fail
      go_ret
      exact ⟨rfl, HHB.out⟩
    · have m := (HI.out.hS.cell (i := n * 7 + 5) (by omega)).trans (by rw [cellS_at5, ev])
      clear ev fin hn hi
      go_enter Try.func27, Try.ntmps27
      go_wp2_with fail
      go_ret
      exact ⟨rfl, HHB.out⟩
    · have m := (HI.out.hS.cell (i := n * 7 + 6) (by omega)).trans (by rw [cellS_at6, ev])
      clear ev fin hn hi
      go_enter Try.func27, Try.ntmps27
      go_wp2_with fail
      go_ret
      exact ⟨rfl, HHB.out⟩
  · have hi : n < cs.length := hi
    have hneg : negB cs n = true := hneg
    have d2 : decide ((n : Int) ≥ (cs.length : Int)) = false := decide_eq_false (by omega)
    have d3 : ¬ cs.length ≤ n := by omega
    have hpl : plI 4 n = n := rfl
    obtain ⟨Av, cv, ev⟩ := Kd.R_slice (HI.out.hL 4 n (by decide))
    rw [hpl, ev, show ((4 : Nat) : Int) = 4 from rfl]
    have HEV := Lib.hid ev
    have HNEG := Lib.hid hneg
    have HLAST := Lib.hid hlast
    have HDUP := Lib.hid hdup
    clear ev fin hn hneg hlast hdup
    go_enter Try.func27, Try.ntmps27
    go_wp2_with fail
    generalize w.alloc (.cells #[.slice A cs.length c, .string q1, .int .i64 q2, v3, v4, .int .i64 q5, .string q6, v7] 27) = W1 at *
    go_loopw [11] (fun t11 wr => ∃ s : Nat, s ≤ stg cs ∧ t11 = .int .i64 s ∧ Below W1.heap.size W1 wr ∧ Hid (∀ s' < s, n ∉ ngI cs cs.length s')) (fun t11 _ => stg cs - (intOf t11).toNat)
    case atStart => exact ⟨0, by omega, rfl, Below.refl _ _, Lib.hid (fun s' h => absurd h (by omega))⟩
    case round =>
      obtain ⟨s, hs, rfl, hB, hO⟩ := hrel
      generalize wr = w2 at *
      by_cases hlt : s < stg cs
      · have i1 : (0 : Int) ≤ (s : Int) := by omega
        have i2 : (s : Int) < (stg cs : Int) := by omega
        have hI2 := HI.out.below hB
        have hnv : ∃ Ao cp, nv cs nb cap s = .slice Ao (ngI cs cs.length s).length cp ∧ (ngI cs cs.length s ≠ [] → Ao = some ⟨nb s, 0, none⟩) := by
          unfold nv
          by_cases he : ngI cs cs.length s = []
          · rw [if_pos he, he]; exact ⟨none, 0, rfl, fun h => absurd rfl h⟩
          · rw [if_neg he]; exact ⟨_, _, rfl, fun _ => rfl⟩
        obtain ⟨Ao, cp, env, hao⟩ := hnv
        have m3 := (hI2.hS.cell (i := s * 7 + 3) (by omega)).trans (by rw [cellS_at3, env])
        have HAO := Lib.hid hao
        have HI2 := Lib.hid hI2
        have hnl := ngI_len cs cs.length s
        clear env hao hI2
        go_wp2_with fail
        go_loopw [12] (fun t12 wr => ∃ j : Nat, j ≤ (ngI cs cs.length s).length ∧ t12 = .int .i64 j ∧ Below w2.heap.size w2 wr ∧ Hid (∀ j' < j, (ngI cs cs.length s)[j']? ≠ some n)) (fun t12 _ => (ngI cs cs.length s).length - (intOf t12).toNat)
        case atStart => exact ⟨0, by omega, rfl, Below.refl _ _, Lib.hid (fun j' h => absurd h (by omega))⟩
        case round =>
          obtain ⟨j, hj, rfl, hBi, hOi⟩ := hrel
          have m3r := pw_cell_below hBi m3
          by_cases hlt2 : j < (ngI cs cs.length s).length
          · have j1 : (0 : Int) ≤ (j : Int) := by omega
            have j2 : (j : Int) < ((ngI cs cs.length s).length : Int) := by omega
            have hne : ngI cs cs.length s ≠ [] := by intro e; rw [e] at hlt2; simp at hlt2
            obtain rfl := HAO.out hne
            have hI3 := HI2.out.below hBi
            obtain ⟨_, hcap, hrow⟩ := hI3.hB s hne
            have hget : (ngI cs cs.length s)[j]? = some (ngI cs cs.length s)[j] := List.getElem?_eq_getElem hlt2
            have hmem := ngI_lt (List.getElem_mem hlt2)
            obtain ⟨y, hy⟩ : ∃ y, y = (ngI cs cs.length s)[j] := ⟨_, rfl⟩
            rw [← hy] at hget hmem
            have g1 : wr.cell? ⟨nb s, j * 3 + 1, none⟩ = some (.string (cpA cs y).f3) := by
              rw [hrow.cell (by omega)]
              unfold cellN
              rw [show (j * 3 + 1) / 3 = j from by omega, hget, show (j * 3 + 1) % 3 = 1 from by omega]
              rfl
            have g2 : wr.cell? ⟨nb s, j * 3 + 2, none⟩ = some (V 4 y) := by
              rw [hrow.cell (by omega)]
              unfold cellN
              rw [show (j * 3 + 2) / 3 = j from by omega, hget, show (j * 3 + 2) % 3 = 2 from by omega]
              rfl
            obtain ⟨cd, rfl, c0, c1, c2, c3⟩ := atCpN (Kd.C_below (Kd.C_below HC.out hB) hBi) n hi hi
            have k0r := (blk_cell (blk_below (blk_below HQ.out hB) hBi) 0).trans rfl
            have hnm : cs[n].f3 = (cpA cs n).f3 := by simp [cpA, List.getD_eq_getElem?_getD, List.getElem?_eq_getElem hi]
            rw [hnm] at c3
            have n1 : (n : Int) < (cs.length : Int) := by omega
            have HGET := Lib.hid hget
            have HY := Lib.hid hmem
            clear c0 c1 c2 hnm hy hrow hget hmem
            cases hq : ((cpA cs y).f3.toList == (cpA cs n).f3.toList) with
            | true =>
              have hyn : y = n := names_eq HDUP.out HY.out.1 hi (by
                rw [Lib.toList_data, Lib.toList_data] at hq
                simpa using hq)
              subst hyn
              rw [HEV.out] at g2
              go_wp2_with fail
              go_quiet (fail)
              have g2q := pw_cell_below (pw_below_drewN (Below.refl _ _) nq) g2
              have m3q := pw_cell_below (pw_below_drewN (Below.refl _ _) nq) m3r
              go_wp2_with fail
              go_ret
              exact ⟨rfl, pw_below_drewN (below_step (below_step HHB.out hB) hBi) _⟩
            | false =>
              have hyn : y ≠ n := by
                rintro rfl
                simp at hq
              have HO3 := Lib.hid (show ∀ j' < j + 1, (ngI cs cs.length s)[j']? ≠ some n by
                intro j' h
                rcases Nat.lt_or_ge j' j with h1 | h1
                · exact hOi.out j' h1
                · have : j' = j := by omega
                  subst this
                  rw [HGET.out]
                  intro e
                  injection e with e
                  exact hyn e)
              go_wp2_with fail
              go_quiet (fail)
              go_wp2_with fail
              go_roundw
              case rel => exact ⟨j + 1, by omega, by go_num, pw_below_drewN hBi _, HO3⟩
              case measure => simp [intOf]; omega
          · have HO3 := Lib.hid (show ∀ s' < s + 1, n ∉ ngI cs cs.length s' by
              intro s' h hm
              rcases Nat.lt_or_ge s' s with h1 | h1
              · exact hO.out s' h1 hm
              · have : s' = s := by omega
                subst this
                obtain ⟨j', hj', e⟩ := List.getElem_of_mem hm
                exact hOi.out j' (by omega) (by rw [List.getElem?_eq_getElem hj', e]))
            go_wp2_with fail
            go_roundw
            case rel => exact ⟨s + 1, by omega, by go_num, below_step hB hBi, HO3⟩
            case measure => simp [intOf]; omega
      · obtain rfl : s = stg cs := by omega
        exact absurd (show n ∈ ngI cs cs.length (stA cs n) by
          unfold ngI
          rw [List.mem_filter, List.mem_range]
          exact ⟨hi, by simp [HNEG.out]⟩) (hO.out _ (stA_lt cs HLAST.out n hi))
  · have hns := hn (by decide)
    have d1 : decide ((n : Int) ≥ (stg cs : Int)) = false := decide_eq_false (by omega)
    have d2 : decide ((n : Int) ≥ (cs.length : Int)) = false := decide_eq_false (by omega)
    rw [show plI 5 n = 0 from rfl, HE5.out]
    clear fin hn hi
    go_enter Try.func27, Try.ntmps27
    go_wp2_with fail
    go_ret
    exact ⟨rfl, HHB.out⟩
end
end Go.Proofs.Ytgnifglolbfamaa

/- The walk of the law PlaceAll (printed by mkall.py). -/
set_option linter.unusedVariables false
set_option linter.unusedSimpArgs false
namespace Go.Proofs.Ytgnifglolbfamaa
open Go.RowKit Go.Proofs.YtgnifglolbfamaaW.PrintWords

theorem pos_ngI {cs : List Cp} {i : Nat} (hi : i < cs.length) (hn : negB cs i = false) : ngI cs cs.length (stA cs i) = ngI cs i (stA cs i) := by
  have : ∀ j, i ≤ j → j ≤ cs.length → ngI cs j (stA cs i) = ngI cs i (stA cs i) := by
    intro j
    induction j with
    | zero => intro h _; have : i = 0 := by omega
              subst this; rfl
    | succ j ih =>
      intro h hj
      rcases Nat.lt_or_ge i (j + 1) with h1 | h1
      · rw [ngI_succ, ih (by omega) (by omega)]
        have : (negB cs j && stA cs j == stA cs i) = false := by
          rcases Nat.lt_or_ge i j with h2 | h2
          · have := stA_pos cs i j h2 (by omega) hn
            have h3 : (stA cs j == stA cs i) = false := by rw [beq_eq_false_iff_ne]; omega
            rw [h3, Bool.and_false]
          · have : j = i := by omega
            subst this
            rw [hn, Bool.false_and]
        rw [this]
        simp
      · have : i = j + 1 := by omega
        subst this; rfl
  exact this cs.length (by omega) (Nat.le_refl _)
theorem ngI_next {cs : List Cp} {i : Nat} (hi : i < cs.length) (hn : negB cs i = false) : ngI cs (i + 1) (stA cs (i + 1)) = [] := by
  have h1 := stA_succ cs i hi
  rw [hn] at h1
  simp at h1
  cases h : ngI cs (i + 1) (stA cs (i + 1)) with
  | nil => rfl
  | cons a t =>
    have hm : a ∈ ngI cs (i + 1) (stA cs (i + 1)) := by rw [h]; exact List.mem_cons_self
    obtain ⟨h2, _, h3⟩ := ngI_lt hm
    have := stA_mono cs i a (by omega) (by omega)
    omega
theorem anchors_ok {cs : List Cp} {ws : List Ex} (h0 : patErr cs = 0) (he : placeErr cs ws = 0) : ∀ y ∈ ws, ∃ k n : Nat, anchorOf cs (refsOf y) = ((k : Int), (n : Int), 0) := by
  intro y hy
  have h1 : (anchorOf cs (refsOf y)).2.2 = 0 := by
    unfold placeErr at he
    split at he
    · rename_i x hx
      have := List.find?_some hx
      rw [he] at this
      exact absurd this (by decide)
    · rename_i hn
      have := List.find?_eq_none.1 hn y hy
      simpa using this
  generalize hab : anchorOf cs (refsOf y) = r at *
  obtain ⟨a, b, f⟩ := r
  simp only at h1
  subst h1
  obtain ⟨k', n', rfl, rfl, _⟩ := anchor_valid hab h0
  exact ⟨k', n', rfl⟩
theorem tot_all {cs : List Cp} (h0 : patErr cs = 0) : ∀ (ws : List Ex), (∀ y ∈ ws, ∃ k n : Nat, anchorOf cs (refsOf y) = ((k : Int), (n : Int), 0)) → totF cs (fun k i => (placeL cs ws k i).length) = sumN (fun y => 1 + twice cs y) ws := by
  intro ws hok
  have : ∀ j, j ≤ ws.length → totF cs (fun k i => (placeL cs (ws.take j) k i).length) = sumN (fun y => 1 + twice cs y) (ws.take j) := by
    intro j
    induction j with
    | zero =>
      intro _
      rw [List.take_zero]
      unfold totF placeL
      dsimp only [List.foldl_nil]
      rw [sumN_zero _ _ (fun s _ => by cases negB cs s <;> simp)]
      rfl
    | succ j ih =>
      intro hj
      have hjl : j < ws.length := by omega
      obtain ⟨k, n, ha⟩ := hok ws[j] (List.getElem_mem hjl)
      rw [sumN_take_succ _ _ _ hjl, List.take_succ_eq_append_getElem hjl, tot_step ha h0, ih (by omega)]
  have := this ws.length (Nat.le_refl _)
  rwa [List.take_length] at this
/-- What the law reckons at a component. -/
def partF (cs : List Cp) (L : Nat → Nat → List Ex) (i : Nat) : Nat := if negB cs i then (L 4 i).length else (L 1 (stA cs i)).length + (L 2 (stA cs i)).length + (L 3 (stA cs i)).length
theorem totF_part (cs : List Cp) (L : Nat → Nat → List Ex) : totF cs (fun k i => (L k i).length) = (L 5 0).length + sumN (partF cs L) (List.range cs.length) := rfl
theorem sumN_range_succ (f : Nat → Nat) (i : Nat) : sumN f (List.range (i + 1)) = sumN f (List.range i) + f i := by
  rw [List.range_succ, sumN_append]
  simp [sumN]
end Go.Proofs.Ytgnifglolbfamaa

/- (*Rooms).grow: a list is written on over the room behind it. -/
set_option linter.unusedVariables false
set_option linter.unusedSimpArgs false
namespace Go.Proofs.Ytgnifglolbfamaa
open Go.RowKit Go.Proofs.YtgnifglolbfamaaW.PrintWords

theorem info58 : (Try.prog.info? 24).map (fun i => (i.zero, i.size, i.bytes)) = some (some (.slice none 0 0), 1, 24) := by kernel_rfl
theorem info59 : (Try.prog.info? 3).map (fun i => (i.zero, i.size, i.bytes)) = some (some (.int .i64 0), 1, 8) := by kernel_rfl

/-- A list that was grown: its block, how many elements it had, how much room. -/
structure RE where
  g : Option Nat
  n : Nat
  cap : Nat
def RE.A (r : RE) : Option Addr := r.g.map (fun g => ⟨g, 0, none⟩)
def RE.rm (r : RE) : Nat := min (r.cap - r.n) 70000
def RE.v (r : RE) : Value := .slice r.A (r.n + r.rm) r.cap
def markX (i : Nat) : List Value := [.int .i64 97, .int .i64 i, .int .i64 0, .int .i64 0, .string ⟨#[]⟩, .bool false, .string ⟨#[]⟩, .int .i64 0, .string ⟨#[]⟩, .slice none 0 0]
def reps (l : List Value) (k : Nat) : List Value := (List.range k).flatMap (fun _ => l)
theorem reps_zero (l : List Value) : reps l 0 = [] := rfl
theorem reps_succ (l : List Value) (k : Nat) : reps l (k + 1) = reps l k ++ l := by unfold reps; rw [List.range_succ, List.flatMap_append]; simp
/-- All its room holds the mark (elements of type e, size sz). -/
def Marked (w : World) (e : TypeId) (sz : Nat) (l : List Value) (r : RE) : Prop := ∃ xs, xs.length = r.n * sz ∧ w.ownsRow 0 e sz r.v (r.n + r.rm) (xs ++ reps l r.rm)
theorem RE.own_block {r : RE} {n c : Nat} : (Value.slice r.A n c).ownBlock = r.g := by unfold RE.A; cases r.g <;> rfl
theorem Marked.only {w w' : World} {e : TypeId} {sz : Nat} {l : List Value} {r : RE} {S : Nat → Prop} (h : Marked w e sz l r) (ho : Only S w w') (hn : ∀ b, r.g = some b → ¬ S b) : Marked w' e sz l r := by
  obtain ⟨xs, h1, h2⟩ := h
  exact ⟨xs, h1, ho.own h2 (fun k hk => hn k (by unfold RE.v at hk; rw [RE.own_block] at hk; exact hk))⟩
/-- A Rooms, and nothing of it is among what is to be kept (Pr). -/
structure RoomsAt (w : World) (G : Nat) (es : List RE) (vL vF : Value) : Prop where
  hG : w.heap[G]? = some (.cells #[vL, vF] 61 (0, 0))
  hL : w.ownsRow 0 24 1 vL es.length (es.map RE.v)
  hF : w.ownsRow 0 3 1 vF es.length (es.map (fun r => .int .i64 r.n))
structure RoomsOk (w : World) (G : Nat) (es : List RE) (Pr : Nat → Prop) : Prop where
  at_ : ∃ vL vF, RoomsAt w G es vL vF ∧ (∀ k, vL.ownBlock = some k → ¬ Pr k) ∧ (∀ k, vF.ownBlock = some k → ¬ Pr k)
  pG : ¬ Pr G
  mkd : ∀ i r, es[i]? = some r → Marked w 31 10 (markX i) r
  pm : ∀ r ∈ es, ∀ b, r.g = some b → Pr b
theorem RoomsAt.only {w w' : World} {G : Nat} {es : List RE} {vL vF : Value} {S : Nat → Prop} (h : RoomsAt w G es vL vF) (ho : Only S w w') (hG : ¬ S G) (hL : ∀ k, vL.ownBlock = some k → ¬ S k) (hF : ∀ k, vF.ownBlock = some k → ¬ S k) : RoomsAt w' G es vL vF :=
  ⟨ho.blk h.hG hG, ho.own h.hL hL, ho.own h.hF hF⟩
theorem RoomsOk.only {w w' : World} {G : Nat} {es : List RE} {Pr S : Nat → Prop} (h : RoomsOk w G es Pr) (ho : Only S w w') (hG : ¬ S G) (hS : ∀ b, S b → ∃ c t, w.heap[b]? = some (.cells c t (0, 0)) ∧ t ≠ 24 ∧ t ≠ 3) (hm : ∀ r ∈ es, ∀ b, r.g = some b → ¬ S b) : RoomsOk w' G es Pr := by
  obtain ⟨vL, vF, h1, h2, h3⟩ := h.at_
  refine ⟨⟨vL, vF, h1.only ho hG (fun k hk hs => ?_) (fun k hk hs => ?_), h2, h3⟩, h.pG, fun i r hi => (h.mkd i r hi).only ho (hm r (List.mem_of_getElem? hi)), h.pm⟩
  · obtain ⟨c, t, hc, h4, h5⟩ := hS k hs
    obtain ⟨c', hc'⟩ := own_typed h1.hL k hk
    rw [hc] at hc'
    injection hc' with hc'
    injection hc' with _ e
    exact h4 e
  · obtain ⟨c, t, hc, h4, h5⟩ := hS k hs
    obtain ⟨c', hc'⟩ := own_typed h1.hF k hk
    rw [hc] at hc'
    injection hc' with hc'
    injection hc' with _ e
    exact h5 e
theorem RoomsOk.below {w w' : World} {G : Nat} {es : List RE} {Pr : Nat → Prop} (h : RoomsOk w G es Pr) (hb : Below w.heap.size w w') : RoomsOk w' G es Pr :=
  h.only (S := fun _ => False) (Only.of_below hb) (fun h => h) (fun _ h => h.elim) (fun _ _ _ _ h => h)
theorem RoomsOk.lt {w : World} {G : Nat} {es : List RE} {Pr : Nat → Prop} (h : RoomsOk w G es Pr) : G < w.heap.size := by
  obtain ⟨vL, vF, h1, _⟩ := h.at_
  exact (Array.getElem?_eq_some_iff.1 h1.hG).1
/-- Other things are to be kept. -/
theorem RoomsOk.keep {w : World} {G : Nat} {es : List RE} {Pr Pr' : Nat → Prop} (h : RoomsOk w G es Pr) (hp : ∀ b, b < w.heap.size → ¬ Pr b → ¬ Pr' b) (hm : ∀ r ∈ es, ∀ b, r.g = some b → Pr' b) : RoomsOk w G es Pr' := by
  have hlt := h.lt
  obtain ⟨vL, vF, h1, h2, h3⟩ := h.at_
  exact ⟨⟨vL, vF, h1, fun k hk => hp k (own_lt h1.hL k hk) (h2 k hk), fun k hk => hp k (own_lt h1.hF k hk) (h3 k hk)⟩, hp G hlt h.pG, h.mkd, hm⟩

def GrowPost (G : Nat) (es : List RE) (Pr : Nat → Prop) (r : RE) (xs : List Value) (w : World) (e : Ending) (w' : World) : Prop :=
  e = .returned (.tuple #[]) ∧ RoomsOk w' G (es ++ [r]) Pr ∧ Only (fun b => ¬ Pr b ∨ r.g = some b) w w' ∧ w'.ownsRow 0 31 10 (.slice r.A r.n r.cap) r.n xs

theorem own_shape {w : World} {base n : Nat} {e : TypeId} {sz : Nat} {v : Value} {xs : List Value} (h : w.ownsRow base e sz v n xs) : ∃ A c, v = .slice A n c ∧ n ≤ c ∧ c ≤ 9223372036854775807 ∧ (0 < n → ∃ g, A = some ⟨g, 0, none⟩) ∧ A = v.ownBlock.map (fun g => ⟨g, 0, none⟩) := by
  rcases h.2 with ⟨rfl, rfl⟩ | ⟨g, cap, cur, rfl, _, _, h1, h2, _⟩
  · exact ⟨none, 0, rfl, Nat.le_refl _, by omega, fun h => absurd h (by omega), rfl⟩
  · exact ⟨_, cap, rfl, h1, by simp only [maxLen] at h2; omega, fun _ => ⟨g, rfl⟩, rfl⟩

theorem markX_one (i : Nat) : ∀ u ∈ markX i, u.oneCell' = true := by
  intro u hu
  simp only [markX, List.mem_cons, List.not_mem_nil, or_false] at hu
  rcases hu with rfl | rfl | rfl | rfl | rfl | rfl | rfl | rfl | rfl | rfl <;> rfl
section
variable {P : Program} {ops : Array Oper} {rest : List Oper} {o : Oper} {a : Act} {Q : Exit → Act → World → Prop}
/-- append(v, u), u of one cell. -/
theorem app_one {W : World} (H : Nat) (hH : W.heap.size = H) (hgd : o.guard = none) (s x : Operand) (t e : TypeId) (z : Value) (bytes : Nat)
    (ho : o.op = .call { callee := .builtin .append, args := #[s, x], argTypes := #[t, t] })
    (ht : P.underlying t = some (.slice e)) (hinfo : (P.info? e).map (fun i => (i.zero, i.size, i.bytes)) = some (some z, 1, bytes)) (hz : z.cells.size = 1) (hb0 : 0 < bytes)
    (A : Option Addr) (n cap : Nat) (xs : List Value) (u : Value) (hO : W.ownsRow 0 e 1 (.slice A n cap) n xs) (hu : u.oneCell' = true)
    (hs : a.eval s = .slice A n cap) (hx : a.eval x = .slice (some ⟨H, 0, none⟩) 1 1) (hl : (n + 1) * bytes ≤ 140737488355328)
    (h : ∀ A' cap' w1, Hid (w1.ownsRow 0 e 1 (.slice A' (n + 1) cap') (n + 1) (xs ++ [u])) → Hid (Only (fun k => (Value.slice A n cap).ownBlock = some k) W w1) → Hid (∀ k, (Value.slice A' (n + 1) cap').ownBlock = some k → (Value.slice A n cap).ownBlock = some k ∨ W.heap.size ≤ k) → wpList P ops Q rest (a.put o.dst (.slice A' (n + 1) cap')) w1) :
    wpList P ops Q (o :: rest) a (W.alloc (.cells #[u] e)) := by
  subst hH
  refine print_append_cells (w0 := W) (W := W) 0 hgd s x t e z 1 bytes ho ht hinfo hz (by decide) hb0 _ n xs [u] hs hx rfl (fun y hy => by simp at hy; rw [hy]; exact hu) hO (Below.refl _ _) (Nat.zero_le _) hl ?_
  intro v1 w1 h1 _ h3 h4
  obtain ⟨A', c', rfl⟩ := own_slice h1
  refine h A' c' w1 (Lib.hid h1) (Lib.hid (Only.grown h3 (fun k hk => hk))) (Lib.hid (fun k hk => ?_))
  rcases h4 with h4 | ⟨b, h4, h5⟩
  · exact .inl (h4 ▸ hk)
  · rw [h4] at hk
    injection hk with hk
    exact .inr (hk ▸ h5)
end
theorem two_types31 {w : World} {b : Nat} {t u : TypeId} {c c' : Array Value} (h : w.heap[b]? = some (.cells c t (0, 0))) (h' : w.heap[b]? = some (.cells c' u (0, 0))) (hn : t ≠ u) : False := by
  rw [h] at h'
  injection h' with h'
  injection h' with _ h2
  exact hn h2

theorem grow_end {G : Nat} {es : List RE} {Pr : Nat → Prop} {r : RE} {xs : List Value} {w w2 w5 w7 : World} {AL AF AL' AF' : Option Addr} {ne cL cF cL' cF' : Nat} (hR : RoomsOk w G es Pr) (hX : w.ownsRow 0 31 10 (.slice r.A r.n r.cap) r.n xs) (hP : ∀ b, Pr b → b < w.heap.size)
    (hXP : ∀ b, r.g = some b → Pr b) (hd : ∀ r' ∈ es, ∀ b, r'.g = some b → r.g ≠ some b) (hne : es.length = ne) (hPG : ¬ Pr G)
    (hPL : ∀ k, (Value.slice AL ne cL).ownBlock = some k → ¬ Pr k) (hPF : ∀ k, (Value.slice AF ne cF).ownBlock = some k → ¬ Pr k)
    (hAt : RoomsAt w2 G es (.slice AL ne cL) (.slice AF ne cF)) (hOn : Only (fun b => r.g = some b) w w2) (hO : w2.ownsRow 0 31 10 (.slice r.A (r.n + r.rm) r.cap) (r.n + r.rm) (xs ++ reps (markX ne) r.rm))
    (hOn5 : Only (fun k => (Value.slice AL ne cL).ownBlock = some k) w2 w5) (hG5 : w5.heap[G]? = some (.cells #[.slice AL ne cL, .slice AF ne cF] 61 (0, 0)))
    (hOL6 : (w5.setCell ⟨G, 0, none⟩ (.slice AL' (ne + 1) cL')).ownsRow 0 24 1 (.slice AL' (ne + 1) cL') (ne + 1) (es.map RE.v ++ [.slice r.A (r.n + r.rm) r.cap]))
    (hO7 : w7.ownsRow 0 3 1 (.slice AF' (ne + 1) cF') (ne + 1) (es.map (fun r => .int .i64 r.n) ++ [.int .i64 r.n]))
    (hB5 : ∀ k, (Value.slice AL' (ne + 1) cL').ownBlock = some k → (Value.slice AL ne cL).ownBlock = some k ∨ w2.heap.size ≤ k)
    (hB7 : ∀ k, (Value.slice AF' (ne + 1) cF').ownBlock = some k → (Value.slice AF ne cF).ownBlock = some k ∨ w5.heap.size ≤ k)
    (hG7 : w7.heap[G]? = some (.cells #[.slice AL' (ne + 1) cL', .slice AF ne cF] 61 (0, 0)))
    (hOL7 : w7.ownsRow 0 24 1 (.slice AL' (ne + 1) cL') (ne + 1) (es.map RE.v ++ [.slice r.A (r.n + r.rm) r.cap]))
    (hOn7 : Only (fun k => (Value.slice AF ne cF).ownBlock = some k) (w5.setCell ⟨G, 0, none⟩ (.slice AL' (ne + 1) cL')) w7)
    (hS6 : (w5.setCell ⟨G, 0, none⟩ (.slice AL' (ne + 1) cL')).heap.size = w5.heap.size) :
    GrowPost G es Pr r xs w (.returned (.tuple #[])) (w7.setCell ⟨G, 1, none⟩ (.slice AF' (ne + 1) cF')) := by
  have s2 := hOn.size
  have s5 := hOn5.size
  have s7 := hOn7.size
  have hA6 : Only (fun b => ¬ Pr b) w2 (w5.setCell ⟨G, 0, none⟩ (.slice AL' (ne + 1) cL')) := (hOn5.mono (fun b _ hb => hPL b hb)).same (Only.setCell _ _ hPG)
  have hA8 : Only (fun b => ¬ Pr b) w2 (w7.setCell ⟨G, 1, none⟩ (.slice AF' (ne + 1) cF')) := (hA6.same (hOn7.mono (fun b _ hb => hPF b hb))).same (Only.setCell _ _ hPG)
  have hr : ∀ k, (Value.slice r.A (r.n + r.rm) r.cap).ownBlock = some k → ¬ ¬ Pr k := fun k hk h => by
    rw [RE.own_block] at hk
    exact h (hXP k hk)
  have hO8 := hA8.own hO hr
  refine ⟨rfl, ⟨⟨.slice AL' (ne + 1) cL', .slice AF' (ne + 1) cF', ⟨blk_put hG7 1 _ rfl, ?_, ?_⟩, fun k hk hp => ?_, fun k hk hp => ?_⟩, hPG, fun i r' hi => ?_, fun r' hr' b hb => ?_⟩, ?_, ?_⟩
  · rw [List.length_append, List.length_singleton, hne, List.map_append]
    exact (Only.setCell (S := fun b => b = G) (w := w7) ⟨G, 1, none⟩ _ rfl).own hOL7 (fun b hb hs => by
      obtain ⟨c, hc⟩ := own_typed hOL7 b hb
      subst hs
      exact two_types31 hc hG7 (by decide))
  · rw [List.length_append, List.length_singleton, hne, List.map_append]
    exact (Only.setCell (S := fun b => b = G) (w := w7) ⟨G, 1, none⟩ _ rfl).own hO7 (fun b hb hs => by
      obtain ⟨c, hc⟩ := own_typed hO7 b hb
      subst hs
      exact two_types31 hc hG7 (by decide))
  · rcases hB5 k hk with h | h
    · exact hPL k h hp
    · have := hP k hp; omega
  · rcases hB7 k hk with h | h
    · exact hPF k h hp
    · have := hP k hp; omega
  · rw [List.getElem?_append] at hi
    split at hi
    · exact ((hR.mkd i r' hi).only hOn (fun b hb hs => hd r' (List.mem_of_getElem? hi) b hb hs)).only hA8 (fun b hb h => h (hR.pm r' (List.mem_of_getElem? hi) b hb))
    · rename_i hlt
      have hi0 : i - es.length = 0 := by
        rcases Nat.eq_zero_or_pos (i - es.length) with h | h
        · exact h
        · rw [List.getElem?_eq_none (by simp; omega)] at hi; cases hi
      rw [hi0] at hi
      have : r = r' := by simpa using hi
      subst this
      have hie : i = ne := by omega
      subst hie
      exact ⟨xs, hX.1, hO8⟩
  · rcases List.mem_append.1 hr' with h | h
    · exact hR.pm r' h b hb
    · rw [List.mem_singleton.1 h] at hb
      exact hXP b hb
  · exact (hOn.mono (fun b _ h => Or.inr h)).same (hA8.mono (fun b _ h => Or.inl h))
  · rcases hg : r.g with _ | g
    · exact hA8.own (hOn.own hX (fun b hb => by rw [RE.own_block, hg] at hb; cases hb)) (fun b hb => by rw [RE.own_block, hg] at hb; cases hb)
    · exact own_prefix hO8 hX.1 (by unfold RE.A; rw [hg]; simp) (Nat.le_add_right _ _)

set_option maxHeartbeats 4000000 in
set_option maxRecDepth 100000 in
theorem grow_any (G : Nat) (es : List RE) (Pr : Nat → Prop) (r : RE) (xs : List Value) (w : World) (hR : RoomsOk w G es Pr) (hX : w.ownsRow 0 31 10 (.slice r.A r.n r.cap) r.n xs) (hP : ∀ b, Pr b → b < w.heap.size)
    (hXP : ∀ b, r.g = some b → Pr b) (hd : ∀ r' ∈ es, ∀ b, r'.g = some b → r.g ≠ some b) (hlen : es.length ≤ 1000000000) (hn : r.n ≤ 100000000000) :
    Calls Try.prog 63 #[.pointer (some ⟨G, 0, none⟩), .slice r.A r.n r.cap] w (GrowPost G es Pr r xs w) := by
  obtain ⟨vL, vF, hAt, hpL, hpF⟩ := hR.at_
  obtain ⟨AL, cL, rfl, hL1, hL2, -, hAL⟩ := own_shape hAt.hL
  obtain ⟨AF, cF, rfl, hF1, hF2, -, hAF⟩ := own_shape hAt.hF
  obtain ⟨_, _, he, hc1, hc2, hA, -⟩ := own_shape hX
  injection he with e1 e2 e3
  clear e2
  subst e1
  subst e3
  have hXb : ∀ b, r.g = some b → ∃ c, w.heap[b]? = some (.cells c 31 (0, 0)) := fun b hb => own_typed hX b (by rw [RE.own_block]; exact hb)
  have hPG := hR.pG
  have HR := Lib.hid hR
  have HX := Lib.hid hX
  have HXB := Lib.hid hXb
  have HAT := Lib.hid hAt
  have HPL := Lib.hid hpL
  have HPF := Lib.hid hpF
  have HXP := Lib.hid hXP
  have HD := Lib.hid hd
  have HP := Lib.hid hP
  have HPG := Lib.hid hPG
  have HAL := Lib.hid hAL
  have HAF := Lib.hid hAF
  have HA := Lib.hid hA
  clear hR hX hXb hAt hpL hpF hXP hd hP hPG hAL hAF hA
  obtain ⟨q, hq⟩ : ∃ q, q = r.rm := ⟨_, rfl⟩
  have HQ := Lib.hid hq
  have hq1 : r.n + q ≤ r.cap := by rw [hq]; unfold RE.rm; omega
  have hq2 : q ≤ 70000 := by rw [hq]; unfold RE.rm; omega
  have hq3 := Lib.hid (show r.n + q = r.cap ∨ q = 70000 by rw [hq]; unfold RE.rm; omega)
  clear hq
  generalize hNE : es.length = ne at *
  have HNE := Lib.hid hNE
  clear hNE
  go_enter Try.func63, Try.ntmps63
  go_wp2_with fail
  go_loopw [4, 5] (fun t4 t5 wr => ∃ k m : Nat, k ≤ q ∧ t5 = .int .i64 k ∧ Hid (m = r.n + k) ∧ t4 = .slice r.A m r.cap ∧ Hid (wr.ownsRow 0 31 10 (.slice r.A m r.cap) m (xs ++ reps (markX ne) k)) ∧ Hid (Only (fun b => r.g = some b) w wr)) (fun _ t5 _ => q - (intOf t5).toNat)
  case atStart => exact ⟨0, r.n, by omega, rfl, Lib.hid rfl, rfl, Lib.hid (by rw [reps_zero, List.append_nil]; exact HX.out), Lib.hid (Only.refl _ _)⟩
  case round =>
    obtain ⟨k, m, hk, rfl, hm, rfl, hO, hOn⟩ := hrel
    generalize wr = w2 at *
    have hAt2 : RoomsAt w2 G es (.slice AL ne cL) (.slice AF ne cF) := HAT.out.only hOn.out (fun hs => by
        obtain ⟨c, hc⟩ := HXB.out G hs
        exact two_types31 hc HAT.out.hG (by decide)) (fun b hb hs => by
        obtain ⟨c, hc⟩ := HXB.out b hs
        obtain ⟨c', hc'⟩ := own_typed HAT.out.hL b hb
        exact two_types31 hc hc' (by decide)) (fun b hb hs => by
        obtain ⟨c, hc⟩ := HXB.out b hs
        obtain ⟨c', hc'⟩ := own_typed HAT.out.hF b hb
        exact two_types31 hc hc' (by decide))
    have HAT2 := Lib.hid hAt2
    have c0 := (blk_cell hAt2.hG 0).trans rfl
    have c1 := (blk_cell hAt2.hG 1).trans rfl
    have hmm := hm.out
    clear hAt2
    by_cases hlt : k < q
    · have d1 : decide ((k : Int) < 70000) = true := decide_eq_true (by omega)
      have d2 : decide ((m : Int) < (r.cap : Int)) = true := decide_eq_true (by omega)
      have d3 : decide (m < r.cap) = true := decide_eq_true (by omega)
      have d4 : decide (k < 70000) = true := decide_eq_true (by omega)
      have hmc : m < r.cap := by omega
      clear hmm
      go_wp2_with (at_builtin; go_must (refine app_in (W := w2) w2.heap.size (by rfl) (by rfl) _ _ 24 31 _ 10 120 (by rfl) Try.underlying24 infoEx 0 r.A m r.cap _ (markX ne) hO.out hmc (by rfl) (by rfl) (by rfl) (markX_one ne) ?_))
      intro w5 hO5 hOn5
      go_wp2_with fail
      go_roundw
      case rel =>
        exact ⟨k + 1, m + 1, by omega, by go_num, Lib.hid (by have := hm.out; omega), rfl, Lib.hid (by rw [reps_succ]; exact hO5.out), Lib.hid (hOn.out.same (hOn5.out.mono (fun b _ hb => by rw [RE.own_block] at hb; exact hb)))⟩
      case measure => simp [intOf]; omega
    · obtain rfl : k = q := by omega
      have HOL := Lib.hid (show w2.ownsRow 0 24 1 (.slice AL ne cL) ne (es.map RE.v) from HNE.out ▸ HAT2.out.hL)
      have HOF := Lib.hid (show w2.ownsRow 0 3 1 (.slice AF ne cF) ne (es.map (fun r => .int .i64 r.n)) from HNE.out ▸ HAT2.out.hF)
      by_cases hk7 : k < 70000
      · have d1 : decide ((k : Int) < 70000) = true := decide_eq_true (by omega)
        have d2 : decide (m < r.cap) = false := decide_eq_false (by have := hq3.out; omega)
        clear hmm
        have hl1 : (ne + 1) * 24 ≤ 140737488355328 := by omega
        have hl2 : (ne + 1) * 8 ≤ 140737488355328 := by omega
        go_wp2_with (at_builtin; go_must (refine app_one (W := w2) w2.heap.size (by rfl) (by rfl) _ _ 58 24 _ 24 (by rfl) Try.underlying58 info58 (by rfl) (by decide) AL ne cL _ (.slice r.A m r.cap) HOL.out (by rfl) (by rfl) (by rfl) hl1 ?_))
        intro AL' cL' w5 hO5 hOn5 hB5
        have HG5 := Lib.hid (hOn5.out.blk HAT2.out.hG (fun hk => by
          obtain ⟨c, hc⟩ := own_typed HOL.out G hk
          exact two_types31 hc HAT2.out.hG (by decide)))
        have y0 := (blk_cell HG5.out 0).trans rfl
        have y1 := (blk_cell HG5.out 1).trans rfl
        have z0 := blk_frozen HG5.out 0
        clear c0 c1 d1
        have hW5 : (w5.setCell ⟨G, 0, none⟩ (.slice AL' (ne + 1) cL')).heap.size = w5.heap.size := by simp [World.setCell]
        have HOF6 := Lib.hid ((Only.setCell (S := fun b => b = G) (w := w5) ⟨G, 0, none⟩ (.slice AL' (ne + 1) cL') rfl).own (hOn5.out.own HOF.out (fun b hb hs => by
          obtain ⟨c, hc⟩ := own_typed HOF.out b hb
          obtain ⟨c', hc'⟩ := own_typed HOL.out b hs
          exact two_types31 hc hc' (by decide))) (fun b hb hs => by
          obtain ⟨c, hc⟩ := own_typed HOF.out b hb
          subst hs
          exact two_types31 hc HAT2.out.hG (by decide)))
        have HOL6 := Lib.hid ((Only.setCell (S := fun b => b = G) (w := w5) ⟨G, 0, none⟩ (.slice AL' (ne + 1) cL') rfl).own hO5.out (fun b hb hs => by
          obtain ⟨c, hc⟩ := own_typed hO5.out b hb
          subst hs
          exact two_types31 hc HG5.out (by decide)))
        have HG6 : Hid ((w5.setCell ⟨G, 0, none⟩ (.slice AL' (ne + 1) cL')).heap[G]? = some (.cells #[.slice AL' (ne + 1) cL', .slice AF ne cF] 61 (0, 0))) := Lib.hid (blk_put HG5.out 0 _ rfl)
        have HS6 := Lib.hid hW5
        clear hW5
        go_wp2_with (at_builtin; go_must (refine app_one (W := w5.setCell ⟨G, 0, none⟩ (.slice AL' (ne + 1) cL')) w5.heap.size HS6.out (by rfl) _ _ 59 3 _ 8 (by rfl) Try.underlying59 info59 (by rfl) (by decide) AF ne cF _ (.int .i64 r.n) HOF6.out (by rfl) (by rfl) (by rfl) hl2 ?_))
        intro AF' cF' w7 hO7 hOn7 hB7
        have HG7 := Lib.hid (hOn7.out.blk HG6.out (fun hk => by
          obtain ⟨c, hc⟩ := own_typed HOF6.out G hk
          exact two_types31 hc HG6.out (by decide)))
        have HOL7 := Lib.hid (hOn7.out.own HOL6.out (fun b hb hs => by
          obtain ⟨c, hc⟩ := own_typed HOL6.out b hb
          obtain ⟨c', hc'⟩ := own_typed HOF6.out b hs
          exact two_types31 hc hc' (by decide)))
        clear y0 y1 z0
        have y1 := (blk_cell HG7.out 1).trans rfl
        have z1 := blk_frozen HG7.out 1
        go_wp2_with fail
        go_end0
        exact grow_end HR.out HX.out HP.out HXP.out HD.out HNE.out HPG.out HPL.out HPF.out HAT2.out hOn.out (by rw [← HQ.out, ← hm.out]; exact hO.out) hOn5.out HG5.out (by rw [← HQ.out, ← hm.out]; exact HOL6.out) hO7.out hB5.out hB7.out HG7.out (by rw [← HQ.out, ← hm.out]; exact HOL7.out) hOn7.out HS6.out
      · have d1 : decide ((k : Int) < 70000) = false := decide_eq_false (by omega)
        clear hmm
        have hl1 : (ne + 1) * 24 ≤ 140737488355328 := by omega
        have hl2 : (ne + 1) * 8 ≤ 140737488355328 := by omega
        go_wp2_with (at_builtin; go_must (refine app_one (W := w2) w2.heap.size (by rfl) (by rfl) _ _ 58 24 _ 24 (by rfl) Try.underlying58 info58 (by rfl) (by decide) AL ne cL _ (.slice r.A m r.cap) HOL.out (by rfl) (by rfl) (by rfl) hl1 ?_))
        intro AL' cL' w5 hO5 hOn5 hB5
        have HG5 := Lib.hid (hOn5.out.blk HAT2.out.hG (fun hk => by
          obtain ⟨c, hc⟩ := own_typed HOL.out G hk
          exact two_types31 hc HAT2.out.hG (by decide)))
        have y0 := (blk_cell HG5.out 0).trans rfl
        have y1 := (blk_cell HG5.out 1).trans rfl
        have z0 := blk_frozen HG5.out 0
        clear c0 c1 d1
        have hW5 : (w5.setCell ⟨G, 0, none⟩ (.slice AL' (ne + 1) cL')).heap.size = w5.heap.size := by simp [World.setCell]
        have HOF6 := Lib.hid ((Only.setCell (S := fun b => b = G) (w := w5) ⟨G, 0, none⟩ (.slice AL' (ne + 1) cL') rfl).own (hOn5.out.own HOF.out (fun b hb hs => by
          obtain ⟨c, hc⟩ := own_typed HOF.out b hb
          obtain ⟨c', hc'⟩ := own_typed HOL.out b hs
          exact two_types31 hc hc' (by decide))) (fun b hb hs => by
          obtain ⟨c, hc⟩ := own_typed HOF.out b hb
          subst hs
          exact two_types31 hc HAT2.out.hG (by decide)))
        have HOL6 := Lib.hid ((Only.setCell (S := fun b => b = G) (w := w5) ⟨G, 0, none⟩ (.slice AL' (ne + 1) cL') rfl).own hO5.out (fun b hb hs => by
          obtain ⟨c, hc⟩ := own_typed hO5.out b hb
          subst hs
          exact two_types31 hc HG5.out (by decide)))
        have HG6 : Hid ((w5.setCell ⟨G, 0, none⟩ (.slice AL' (ne + 1) cL')).heap[G]? = some (.cells #[.slice AL' (ne + 1) cL', .slice AF ne cF] 61 (0, 0))) := Lib.hid (blk_put HG5.out 0 _ rfl)
        have HS6 := Lib.hid hW5
        clear hW5
        go_wp2_with (at_builtin; go_must (refine app_one (W := w5.setCell ⟨G, 0, none⟩ (.slice AL' (ne + 1) cL')) w5.heap.size HS6.out (by rfl) _ _ 59 3 _ 8 (by rfl) Try.underlying59 info59 (by rfl) (by decide) AF ne cF _ (.int .i64 r.n) HOF6.out (by rfl) (by rfl) (by rfl) hl2 ?_))
        intro AF' cF' w7 hO7 hOn7 hB7
        have HG7 := Lib.hid (hOn7.out.blk HG6.out (fun hk => by
          obtain ⟨c, hc⟩ := own_typed HOF6.out G hk
          exact two_types31 hc HG6.out (by decide)))
        have HOL7 := Lib.hid (hOn7.out.own HOL6.out (fun b hb hs => by
          obtain ⟨c, hc⟩ := own_typed HOL6.out b hb
          obtain ⟨c', hc'⟩ := own_typed HOF6.out b hs
          exact two_types31 hc hc' (by decide)))
        clear y0 y1 z0
        have y1 := (blk_cell HG7.out 1).trans rfl
        have z1 := blk_frozen HG7.out 1
        go_wp2_with fail
        go_end0
        exact grow_end HR.out HX.out HP.out HXP.out HD.out HNE.out HPG.out HPL.out HPF.out HAT2.out hOn.out (by rw [← HQ.out, ← hm.out]; exact hO.out) hOn5.out HG5.out (by rw [← HQ.out, ← hm.out]; exact HOL6.out) hO7.out hB5.out hB7.out HG7.out (by rw [← HQ.out, ← hm.out]; exact HOL7.out) hOn7.out HS6.out
end Go.Proofs.Ytgnifglolbfamaa
