/- Texts of the claim, merged in build order: QF, QX, RC. -/
import Derived.Test.YtgnifglolbfamaaZAT
import Derived.Test.YtgnifglolbfamaaZAQ
import Derived.StillTailTactics
/- What reads alike is told to be the same: sameStage, sameStages. -/
set_option linter.unusedVariables false
set_option linter.unusedSimpArgs false
namespace Go.Proofs.Ytgnifglolbfamaa
open Go.RowKit Go.Proofs.YtgnifglolbfamaaW.PrintWords

theorem rdNg_at (l : List Ng) (k : Nat) (h : k < l.length) : rdNg l (k : Int) = l[k] := by
  simp [rdNg, List.getD_eq_getElem?_getD, List.getElem?_eq_getElem h]
set_option maxHeartbeats 8000000 in
set_option maxRecDepth 100000 in
theorem sameStage_same (s : Sg) (A3 A4 A5 A6 B3 B4 B5 B6 : Option Addr) (a3 a4 a5 a6 b3 b4 b5 b6 : Nat) (w : World) (hA3 : kNg.C w A3 s.f3.length s.f3) (hA4 : kEx.C w A4 s.f4.length s.f4) (hA5 : kEx.C w A5 s.f5.length s.f5) (hA6 : kEx.C w A6 s.f6.length s.f6)
    (hB3 : kNg.C w B3 s.f3.length s.f3) (hB4 : kEx.C w B4 s.f4.length s.f4) (hB5 : kEx.C w B5 s.f5.length s.f5) (hB6 : kEx.C w B6 s.f6.length s.f6) :
    Calls Try.prog 24 #[.agg #[.string s.f0, .string s.f1, .bool s.f2, .slice A3 s.f3.length a3, .slice A4 s.f4.length a4, .slice A5 s.f5.length a5, .slice A6 s.f6.length a6], .agg #[.string s.f0, .string s.f1, .bool s.f2, .slice B3 s.f3.length b3, .slice B4 s.f4.length b4, .slice B5 s.f5.length b5, .slice B6 s.f6.length b6]] w (True_ w) := by
  have hmx := hA3.2.1
  have hb1 := below_new w (.cells #[.string s.f0, .string s.f1, .bool s.f2, .slice A3 s.f3.length a3, .slice A4 s.f4.length a4, .slice A5 s.f5.length a5, .slice A6 s.f6.length a6] 71)
  have hX1 := blk_new w (.cells #[.string s.f0, .string s.f1, .bool s.f2, .slice A3 s.f3.length a3, .slice A4 s.f4.length a4, .slice A5 s.f5.length a5, .slice A6 s.f6.length a6] 71)
  have hb2 := below_new (w.alloc (.cells #[.string s.f0, .string s.f1, .bool s.f2, .slice A3 s.f3.length a3, .slice A4 s.f4.length a4, .slice A5 s.f5.length a5, .slice A6 s.f6.length a6] 71)) (.cells #[.string s.f0, .string s.f1, .bool s.f2, .slice B3 s.f3.length b3, .slice B4 s.f4.length b4, .slice B5 s.f5.length b5, .slice B6 s.f6.length b6] 71)
  have hY := blk_new (w.alloc (.cells #[.string s.f0, .string s.f1, .bool s.f2, .slice A3 s.f3.length a3, .slice A4 s.f4.length a4, .slice A5 s.f5.length a5, .slice A6 s.f6.length a6] 71)) (.cells #[.string s.f0, .string s.f1, .bool s.f2, .slice B3 s.f3.length b3, .slice B4 s.f4.length b4, .slice B5 s.f5.length b5, .slice B6 s.f6.length b6] 71)
  rw [alloc_size'] at hY
  have hX := blk_below hX1 hb2
  have hb12 := below_step hb1 hb2
  have HA3 := Lib.hid (Kd.C_below hA3 hb12)
  have HB3 := Lib.hid (Kd.C_below hB3 hb12)
  have HBW := Lib.hid hb12
  have H4 := Lib.hid (fun (W : World) (hb : Below w.heap.size w W) => sameExprs_same s.f4 A4 B4 a4 b4 W (Kd.C_below hA4 hb) (Kd.C_below hB4 hb))
  have H5 := Lib.hid (fun (W : World) (hb : Below w.heap.size w W) => sameExprs_same s.f5 A5 B5 a5 b5 W (Kd.C_below hA5 hb) (Kd.C_below hB5 hb))
  have H6 := Lib.hid (fun (W : World) (hb : Below w.heap.size w W) => sameExprs_same s.f6 A6 B6 a6 b6 W (Kd.C_below hA6 hb) (Kd.C_below hB6 hb))
  clear hA3 hA4 hA5 hA6 hB3 hB4 hB5 hB6 hX1 hb1 hb2 hb12
  go_enter Try.func24, Try.ntmps24
  have x0 := (blk_cell (hX) 0).trans rfl
  have x1 := (blk_cell (hX) 1).trans rfl
  have x2 := (blk_cell (hX) 2).trans rfl
  have x3 := (blk_cell (hX) 3).trans rfl
  have x4 := (blk_cell (hX) 4).trans rfl
  have x5 := (blk_cell (hX) 5).trans rfl
  have x6 := (blk_cell (hX) 6).trans rfl
  have y0 := (blk_cell (hY) 0).trans rfl
  have y1 := (blk_cell (hY) 1).trans rfl
  have y2 := (blk_cell (hY) 2).trans rfl
  have y3 := (blk_cell (hY) 3).trans rfl
  have y4 := (blk_cell (hY) 4).trans rfl
  have y5 := (blk_cell (hY) 5).trans rfl
  have y6 := (blk_cell (hY) 6).trans rfl
  go_wp2_with fail
  generalize (w.alloc (.cells #[.string s.f0, .string s.f1, .bool s.f2, .slice A3 s.f3.length a3, .slice A4 s.f4.length a4, .slice A5 s.f5.length a5, .slice A6 s.f6.length a6] 71)).alloc (.cells #[.string s.f0, .string s.f1, .bool s.f2, .slice B3 s.f3.length b3, .slice B4 s.f4.length b4, .slice B5 s.f5.length b5, .slice B6 s.f6.length b6] 71) = W1 at *
  go_loopw [5] (fun t5 wr => ∃ k : Nat, k ≤ s.f3.length ∧ t5 = .int .i64 k ∧ Below W1.heap.size W1 wr) (fun t5 _ => s.f3.length - (intOf t5).toNat)
  case atStart => exact ⟨0, by omega, rfl, Below.refl _ _⟩
  case round =>
    obtain ⟨k, hk, rfl, hBr⟩ := hrel
    generalize wr = w2 at *
    clear x0 x1 x2 x3 x4 x5 x6 y0 y1 y2 y3 y4 y5 y6
    have hXr := blk_below hX hBr
    have hYr := blk_below hY hBr
    have x3 := (blk_cell hXr 3).trans rfl
    have y3 := (blk_cell hYr 3).trans rfl
    by_cases hlt : k < s.f3.length
    · have i1 : (0 : Int) ≤ (k : Int) := by omega
      have i2 : (k : Int) < s.f3.length := by omega
      have hat := atNg (Kd.C_below HA3.out hBr) k i1 i2
      have hbt := atNg (Kd.C_below HB3.out hBr) k i1 i2
      simp only [Int.toNat_natCast] at hat hbt
      obtain ⟨ad, A9, c9, rfl, p0, p1, p2, hl9, hi9⟩ := hat
      obtain ⟨bd, B9, d9, rfl, q0, q1, q2, hm9, hj9⟩ := hbt
      generalize rdNg s.f3 k = y at *
      have HCALL := Lib.hid (sameExprs_same y.f2 A9 B9 c9 d9 w2.drew (Kd.C_below hi9 (below_drew (Below.refl _ _))) (Kd.C_below hj9 (below_drew (Below.refl _ _))))
      clear hi9 hj9
      go_wp2_with fail
      go_still_tail 12, (by kernel_rfl)
      change wpList _ _ _ _ _ w2.drew
      have hbd := below_drew (Below.refl w2.heap.size w2)
      generalize w2.drew = wd at *
      go_wp2_with fail
      refine HCALL.out.mono ?_
      rintro e w3 ⟨rfl, hb3⟩
      have hb23 := below_step hbd hb3
      have x3 := (blk_cell (blk_below hXr hb23) 3).trans rfl
      have y3 := (blk_cell (blk_below hYr hb23) 3).trans rfl
      have p0 := pw_cell_below hb23 p0
      have p1 := pw_cell_below hb23 p1
      have q0 := pw_cell_below hb23 q0
      have q1 := pw_cell_below hb23 q1
      have hB3 := below_step hBr hb23
      clear p2 q2
      go_wp2_with fail
      go_quiet (fail)
      have hB4 := pw_below_drewN hB3 nq
      generalize w3.drewN nq = w4 at *
      go_wp2_with fail
      go_roundw
      case rel => exact ⟨k + 1, by omega, by go_num, hB4⟩
      case measure => simp [intOf]; omega
    · obtain rfl : k = s.f3.length := by omega
      have HXR := Lib.hid hXr
      have HYR := Lib.hid hYr
      have hB2 := below_step HBW.out hBr
      have x4 := (blk_cell hXr 4).trans rfl
      have y4 := (blk_cell hYr 4).trans rfl
      go_wp2_with fail
      refine (H4.out _ hB2).mono ?_
      rintro e w3 ⟨rfl, hb3⟩
      have hXr := blk_below HXR.out hb3
      have hYr := blk_below HYR.out hb3
      have x5 := (blk_cell hXr 5).trans rfl
      have y5 := (blk_cell hYr 5).trans rfl
      have hB3 := below_step hB2 hb3
      clear x3 y3 x4 y4
      go_wp2_with fail
      refine (H5.out _ hB3).mono ?_
      rintro e w4 ⟨rfl, hb4⟩
      have x6 := (blk_cell (blk_below hXr hb4) 6).trans rfl
      have y6 := (blk_cell (blk_below hYr hb4) 6).trans rfl
      have hB4 := below_step hB3 hb4
      clear x5 y5
      go_wp2_with fail
      refine (H6.out _ hB4).mono ?_
      rintro e w5 ⟨rfl, hb5⟩
      have hB5 := below_step hB4 hb5
      go_wp2_with fail
      go_ret
      exact ⟨rfl, hB5⟩

set_option maxHeartbeats 4000000 in
set_option maxRecDepth 100000 in
theorem sameStages_same (l : List Sg) (A B : Option Addr) (c d : Nat) (w : World) (hA : kSg.C w A l.length l) (hB : kSg.C w B l.length l) :
    Calls Try.prog 18 #[.slice A l.length c, .slice B l.length d] w (True_ w) := by
  have hmx := hA.2.1
  have HA := Lib.hid hA
  have HB := Lib.hid hB
  clear hA hB
  go_enter Try.func18, Try.ntmps18
  go_wp2_with fail
  go_loopw [5] (fun t5 wr => ∃ k : Nat, k ≤ l.length ∧ t5 = .int .i64 k ∧ Below w.heap.size w wr) (fun t5 _ => l.length - (intOf t5).toNat)
  case atStart => exact ⟨0, by omega, rfl, Below.refl _ _⟩
  case round =>
    obtain ⟨k, hk, rfl, hBr⟩ := hrel
    generalize wr = w2 at *
    by_cases hlt : k < l.length
    · have i1 : (0 : Int) ≤ (k : Int) := by omega
      have i2 : (k : Int) < l.length := by omega
      have hat := atSg (Kd.C_below HA.out hBr) k i1 i2
      have hbt := atSg (Kd.C_below HB.out hBr) k i1 i2
      simp only [Int.toNat_natCast] at hat hbt
      obtain ⟨ad, A3, a3, A4, a4, A5, a5, A6, a6, rfl, p0, p1, p2, p3, p4, p5, p6, l3, g3, l4, g4, l5, g5, l6, g6⟩ := hat
      obtain ⟨bd, B3, b3, B4, b4, B5, b5, B6, b6, rfl, q0, q1, q2, q3, q4, q5, q6, m3, h3, m4, h4, m5, h5, m6, h6⟩ := hbt
      generalize rdSg l k = s at *
      have hd := below_drew (Below.refl w2.heap.size w2)
      have HCALL := Lib.hid (sameStage_same s A3 A4 A5 A6 B3 B4 B5 B6 a3 a4 a5 a6 b3 b4 b5 b6 w2.drew (Kd.C_below g3 hd) (Kd.C_below g4 hd) (Kd.C_below g5 hd) (Kd.C_below g6 hd) (Kd.C_below h3 hd) (Kd.C_below h4 hd) (Kd.C_below h5 hd) (Kd.C_below h6 hd))
      clear g3 g4 g5 g6 h3 h4 h5 h6 hd
      go_wp2_with fail
      go_still_tail 8, (by kernel_rfl)
      change wpList _ _ _ _ _ w2.drew
      have hBd := below_drew hBr
      generalize w2.drew = wd at *
      go_wp2_with fail
      refine HCALL.out.mono ?_
      rintro e w3 ⟨rfl, hb3⟩
      have hB3 := below_step hBd hb3
      go_wp2_with fail
      go_roundw
      case rel => exact ⟨k + 1, by omega, by go_num, hB3⟩
      case measure => simp [intOf]; omega
    · obtain rfl : k = l.length := by omega
      go_wp2_with fail
      go_ret
      exact ⟨rfl, hBr⟩
end Go.Proofs.Ytgnifglolbfamaa

/- spoilList. -/
set_option linter.unusedVariables false
set_option linter.unusedSimpArgs false
namespace Go.Proofs.Ytgnifglolbfamaa
open Go.RowKit Go.Proofs.YtgnifglolbfamaaW.PrintWords

theorem cut24 (A : Option Addr) (n c i : Nat) (hi : i ≤ n) : ∀ W : World, (Instr.slice 24 (.slice A n c) (some (.int .i64 (i : Int))) none none).run Try.prog W = .ok (.slice (if c = i then A else A.map (·.add (i * 10))) (n - i) (c - i)) W := by
  intro W
  obtain ⟨i0, hi0, hzz⟩ := Option.map_eq_some_iff.1 infoEx
  simp only [Prod.mk.injEq] at hzz
  have := cut_from (P := Try.prog) 24 31 .i64 Try.underlying24 hi0 10 hzz.2.1 A n c (i : Int) (by omega) (by omega) W
  rw [Int.toNat_natCast] at this
  exact this
theorem suffix_C {w : World} {x : HX} (hw : WfH x) (hx : AllOwn w (entX x.1 x.2.1 x.2.2)) (i : Nat) (hi : i ≤ x.2.2.length) (hk : ∀ j (hj : j < x.2.2.length), i ≤ j → AllOwn w (entT x.2.2[j])) (A : Option Addr) (hA : A = x.1.map (fun g => ⟨g, 0, none⟩)) :
    kEx.C w (if x.2.1 = i then A else A.map (·.add (i * 10))) (x.2.2.length - i) ((x.2.2.drop i).map exT) := by
  have ho := own_H hw hx
  have hcap := own_cap ho
  obtain ⟨_, _, he, _, hm, _⟩ := own_shape ho
  refine ⟨by rw [List.length_map, List.length_drop], ?_, fun hp => ?_⟩
  · have : x.2.2.length ≤ x.2.1 := hcap
    injection he with _ _ e3
    omega
  · have hne : x.2.1 ≠ i := by have : x.2.2.length ≤ x.2.1 := hcap; omega
    rw [if_neg hne]
    obtain ⟨g, cap, ts⟩ := x
    cases g with
    | none =>
      have := (hw.1 rfl).2
      simp only at this hp
      subst this
      simp at hp
    | some g =>
      subst hA
      refine ⟨(⟨g, 0, none⟩ : Addr).add (i * 10), rfl, fun j p hj => ?_⟩
      rw [List.getElem?_map, List.getElem?_drop] at hj
      obtain ⟨y, hy, rfl⟩ := Option.map_eq_some_iff.1 hj
      obtain ⟨hjl, rfl⟩ := List.getElem?_eq_some_iff.1 hy
      refine ⟨cellsT ts[i + j], rfl, read_K (hw.2 _ (List.getElem_mem hjl)) (hk _ hjl (Nat.le_add_right _ _)), fun r u hu => ?_⟩
      have hr : r < 10 := (List.getElem?_eq_some_iff.1 hu).1
      rw [add_add, add_plain, show i * 10 + (j * kEx.sz + r) = (i + j) * 10 + r by show i * 10 + (j * 10 + r) = _; omega]
      have := atT (hx _ (List.mem_singleton.2 rfl)) (i + j) hjl r hr
      rw [this]
      exact hu

set_option maxHeartbeats 8000000 in
set_option maxRecDepth 100000 in
theorem spoilList_any (x y : HX) (hN2 : exNL (rdH x) ≤ 100000000000) (hWx : WfH x) (hWy : WfH y) (hxy : rdH y = rdH x) (hnd : (keys (entH x)).Nodup) (hap : ∀ b ∈ keys (entH y), b ∉ keys (entH x)) (A B : Option Addr) (w : World) (hA : A = x.1.map (fun g => ⟨g, 0, none⟩)) (hB : B = y.1.map (fun g => ⟨g, 0, none⟩)) (hx : AllOwn w (entH x)) (hy : AllOwn w (entH y)) :
    Calls Try.prog 23 #[.slice A x.2.2.length x.2.1, .slice B y.2.2.length y.2.1] w fun e w' => e = .returned (.bool true) ∧ Only (fun b => b ∈ keys (entH x)) w w' := by
  have hlen : y.2.2.length = x.2.2.length := by have := congrArg List.length hxy; unfold rdH at this; rwa [List.length_map, List.length_map] at this
  have hX : AllOwn w (entX x.1 x.2.1 x.2.2) := hx.sub (fun E hE => List.mem_append_left _ hE)
  have hcx := cap_H hWx hX
  have hcy := cap_H hWy (hy.sub (fun E hE => List.mem_append_left _ hE))
  have hmx : x.2.1 ≤ 9223372036854775807 := by
    obtain ⟨_, _, he, _, h2, _⟩ := own_shape (own_H hWx hX)
    injection he with _ _ e3
    have : x.2.1 = _ := e3
    omega
  have hmy : y.2.1 ≤ 9223372036854775807 := by
    obtain ⟨_, _, he, _, h2, _⟩ := own_shape (own_H hWy (hy.sub (fun E hE => List.mem_append_left _ hE)))
    injection he with _ _ e3
    have : y.2.1 = _ := e3
    omega
  have hkl : x.2.2.length ≤ 100000000000 := by
    have := exNL_len (rdH x)
    unfold rdH at this hN2
    rw [List.length_map] at this
    exact Nat.le_trans this hN2
  rw [hlen] at hcy ⊢
  rw [keys_entH] at hnd
  have hblk : ∀ m c b, (Value.slice A m c).ownBlock = some b → x.1 = some b := fun m c b hb => by
    rw [hA] at hb
    cases hg : x.1 with
    | none => rw [hg] at hb; simp [Value.ownBlock] at hb
    | some g => rw [hg] at hb; simpa [Value.ownBlock] using hb
  have hgt : ∀ b, x.1 = some b → b ∈ keys (entH x) := fun b hb => by rw [keys_entH, hb]; exact List.mem_append_left _ (List.mem_singleton.2 rfl)
  have hgk : ∀ j (hj : j < x.2.2.length), ∀ b ∈ blT x.2.2[j], b ∈ keys (entH x) ∧ x.1 ≠ some b := fun j hj b hb => by
    have hm2 : b ∈ x.2.2.flatMap blT := List.mem_flatMap.2 ⟨_, List.getElem_mem hj, hb⟩
    refine ⟨by rw [keys_entH]; exact List.mem_append_right _ hm2, fun hg => ?_⟩
    rw [List.nodup_append] at hnd
    exact hnd.2.2 b (by rw [hg]; exact List.mem_singleton.2 rfl) b hm2 rfl
  have hdis : ∀ k (hk : k < x.2.2.length) j (hj : j < x.2.2.length), k < j → ∀ b ∈ blT x.2.2[j], b ∉ blT x.2.2[k] := fun k hk => drop_ents hk (by rw [List.nodup_append] at hnd; exact hnd.2.1)
  have hkN : ∀ k ∈ x.2.2, exN (exT k) ≤ 100000000000 := fun k hk => Nat.le_trans (exNL_mem x.2.2 k hk) hN2
  have hkid : ∀ j (hj : j < x.2.2.length), WfT x.2.2[j] ∧ AllOwn w (entT x.2.2[j]) ∧ (blT x.2.2[j]).Nodup := fun j hj => by
    refine ⟨hWx.2 _ (List.getElem_mem hj), hx.sub (fun E hE => List.mem_append_right _ (List.mem_flatMap.2 ⟨_, List.getElem_mem hj, hE⟩)), ?_⟩
    rw [List.nodup_append] at hnd
    have h2 := hnd.2.1
    unfold List.Nodup at h2
    rw [List.pairwise_flatMap] at h2
    exact h2.1 _ (List.getElem_mem hj)
  have HSX := Lib.hid (fun (w : World) (hx : AllOwn w (entX x.1 x.2.1 x.2.2)) (i : Nat) (hi : i ≤ x.2.2.length) (hk : ∀ j (hj : j < x.2.2.length), i ≤ j → AllOwn w (entT x.2.2[j])) => suffix_C hWx hx i hi hk A hA)
  have HSY := Lib.hid (fun (w : World) (hy : AllOwn w (entH y)) (i : Nat) (hi : i ≤ x.2.2.length) => suffix_C hWy (hy.sub (fun E hE => List.mem_append_left _ hE)) i (hlen ▸ hi) (fun j hj _ => hy.sub (fun E hE => List.mem_append_right _ (List.mem_flatMap.2 ⟨_, List.getElem_mem hj, hE⟩))) B hB)
  have HXE := Lib.hid (show ∀ i, (y.2.2.drop i).map exT = (x.2.2.drop i).map exT from fun i => by rw [List.map_drop, List.map_drop]; exact congrArg (List.drop i) hxy)
  have HX := Lib.hid hX
  have HY := Lib.hid hy
  have HAP := Lib.hid hap
  have HA := Lib.hid hA
  have HW := Lib.hid hWx
  have HLEN := Lib.hid hlen
  have HBLK := Lib.hid hblk
  have HGK := Lib.hid hgk
  have HGT := Lib.hid hgt
  have HDIS := Lib.hid hdis
  have HKN := Lib.hid hkN
  have HKID := Lib.hid hkid
  clear hX hy hap hA hB hWx hWy hlen hblk hgk hgt hdis hkN hkid hN2 hxy hnd hx
  obtain ⟨cx, hcxe⟩ : ∃ cx, cx = x.2.1 := ⟨_, rfl⟩
  obtain ⟨cy, hcye⟩ : ∃ cy, cy = y.2.1 := ⟨_, rfl⟩
  rw [← hcxe] at hcx hmx HSX ⊢
  rw [← hcye] at hcy hmy HSY ⊢
  obtain ⟨n, hn⟩ : ∃ n, n = x.2.2.length := ⟨_, rfl⟩
  rw [← hn] at hkl hcx hcy ⊢
  have HN := Lib.hid hn
  have HCX := Lib.hid hcxe
  clear hn hcxe hcye
  go_enter Try.func23, Try.ntmps23
  go_wp2_with fail
  go_loopw [5] (fun t5 wr => ∃ i : Nat, i ≤ n ∧ t5 = .int .i64 i ∧ Hid (AllOwn wr (entX x.1 x.2.1 x.2.2)) ∧ Hid (∀ j (hj : j < x.2.2.length), i ≤ j → AllOwn wr (entT x.2.2[j])) ∧ Hid (Only (fun b => b ∈ keys (entH x)) w wr)) (fun t5 _ => n - (intOf t5).toNat)
  case atStart => exact ⟨0, by omega, rfl, HX, Lib.hid (fun j hj _ => (HKID.out j hj).2.1), Lib.hid (Only.refl _ _)⟩
  case round =>
    obtain ⟨i, hi, rfl, hXi, hOi, hOn⟩ := hrel
    generalize wr = w2 at *
    by_cases hlt : i < n
    · have hlt' : i < x.2.2.length := by have := HN.out; omega
      have hy2 := HY.out.only hOn.out (fun b hb => HAP.out b hb)
      have hs1 := HSX.out w2 (by rw [HCX.out]; exact hXi.out) i (by have := HN.out; omega) hOi.out
      have hs2 := HSY.out w2 hy2 i (by have := HN.out; omega)
      rw [HXE.out i] at hs2
      rw [HLEN.out] at hs2
      have hc1 := cut24 A n cx i (by omega)
      have hc2 := cut24 B n cy i (by omega)
      rw [← HN.out] at hs1 hs2
      generalize (if cx = i then A else A.map (·.add (i * 10))) = A1 at *
      generalize (if cy = i then B else B.map (·.add (i * 10))) = B1 at *
      have hdl : ((x.2.2.drop i).map exT).length = n - i := by rw [List.length_map, List.length_drop, HN.out]
      have HCS := Lib.hid (show ∀ w', Below w2.heap.size w2 w' → Calls Try.prog 19 #[.slice A1 (n - i) (cx - i), .slice B1 (n - i) (cy - i)] w' (True_ w') from fun w' hb => by
        have := sameExprs_same ((x.2.2.drop i).map exT) A1 B1 (cx - i) (cy - i) w' (by rw [hdl]; exact Kd.C_below hs1 hb) (by rw [hdl]; exact Kd.C_below hs2 hb)
        rw [hdl] at this
        exact this)
      obtain ⟨ni, hni⟩ : ∃ ni, ni = n - i := ⟨_, rfl⟩
      rw [← hni] at hc1 hc2 HCS
      have HNI := Lib.hid hni
      obtain ⟨ci, hci⟩ : ∃ ci, ci = cx - i := ⟨_, rfl⟩
      rw [← hci] at hc1 HCS
      obtain ⟨di, hdi⟩ : ∃ di, di = cy - i := ⟨_, rfl⟩
      rw [← hdi] at hc2 HCS
      clear hs1 hs2 hdl hni hci hdi hlt'
      go_wp2_with fail
      go_still_tail 6, (by kernel_rfl)
      change wpList _ _ _ _ _ w2.drew
      have hbd := below_drew (Below.refl w2.heap.size w2)
      generalize w2.drew = wd at *
      go_wp2_with fail
      refine (HCS.out wd hbd).mono ?_
      rintro e W3 ⟨rfl, hb3⟩
      have hb3' := Lib.hid (below_step hbd hb3)
      clear hbd hb3
      have hlt' : i < x.2.2.length := by have := HN.out; omega
      have HX3 := Lib.hid (hXi.out.only (Only.of_below (S := fun _ => False) hb3'.out) (fun _ _ h => h))
      obtain ⟨ad, had, e0, e1, e2, e3, e4, e5, e6, e7, e8, e9⟩ := kid_at HW.out HX3.out i hlt'
      have hAa : A = some ad := HA.out.trans had
      subst hAa
      have HKK := Lib.hid (HKID.out i hlt')
      have HOK := Lib.hid ((hOi.out i hlt' (Nat.le_refl _)).only (Only.of_below (S := fun _ => False) hb3'.out) (fun _ _ h => h))
      have HKM := Lib.hid (HKN.out _ (List.getElem_mem hlt'))
      have HGK1 := Lib.hid (HGK.out i hlt')
      have HDS := Lib.hid (fun j hj hkj => HDIS.out i hlt' j hj hkj)
      generalize x.2.2[i] = y' at *
      obtain ⟨B9, hB9⟩ : ∃ B9, B9 = y'.g.map (fun g => (⟨g, 0, none⟩ : Addr)) := ⟨_, rfl⟩
      rw [show y'.v = .slice B9 y'.kids.length y'.cap from by rw [hB9]; rfl] at e9
      have HB9 := Lib.hid hB9
      clear hB9 hlt' had hc1 hc2
      have i1 : (0 : Int) ≤ (i : Int) := by omega
      have i2 : (i : Int) < (n : Int) := by omega
      go_wp2_with fail
      have HC := spoil_any _ y' (Nat.le_refl _) HKM.out HKK.out.1 HKK.out.2.2 B9 W3 HB9.out HOK.out
      unfold NodeV at HC
      refine HC.mono ?_
      rintro e W4 ⟨rfl, hOn4⟩
      have HX4 := Lib.hid (HX3.out.only hOn4 (fun b hb hb' => by
        obtain ⟨E, hE, rfl⟩ := List.mem_map.1 hb
        refine (HGK1.out _ hb').2 ?_
        cases hg : x.1 with
        | none => rw [hg] at hE; cases hE
        | some g => rw [hg] at hE; rw [List.mem_singleton.1 hE]))
      have HO4 := Lib.hid (fun j (hj : j < x.2.2.length) (h : i + 1 ≤ j) => ((hOi.out j hj (by omega)).only (Only.of_below (S := fun _ => False) hb3'.out) (fun _ _ h => h)).only hOn4 (fun b hb hb' => HDS.out j hj (by omega) b (by rw [← keys_entT]; exact hb) hb'))
      have HOn4 := Lib.hid ((hOn.out.same (Only.of_below hb3'.out)).same (hOn4.mono (fun b _ hb => (HGK1.out b hb).1)))
      clear hOn4 HC e0 e1 e2 e3 e4 e5 e6 e7 e8 e9
      go_wp2_with fail
      go_roundw
      case rel => exact ⟨i + 1, by omega, by go_num, HX4, HO4, HOn4⟩
      case measure => simp [intOf]; omega
    · obtain rfl : i = n := by omega
      have hrow := own_H HW.out hXi.out
      have HROW := Lib.hid (show w2.ownsRow 0 31 10 (.slice A i cx) i (x.2.2.flatMap cellsT) by rw [HA.out, HN.out, HCX.out]; exact hrow)
      have HOn0 := Lib.hid hOn.out
      have HSZ := Lib.hid hOn.out.size
      clear hrow hOn
      go_wp2_with fail
      go_loopw [7] (fun t7 wr => ∃ j : Nat, j ≤ i ∧ t7 = .int .i64 j ∧ ∃ xs, Hid (wr.ownsRow 0 31 10 (.slice A i cx) i xs) ∧ Hid (Only (fun b => b ∈ keys (entH x)) w wr)) (fun t7 _ => i - (intOf t7).toNat)
      case atStart => exact ⟨0, by omega, rfl, _, HROW, HOn0⟩
      case round =>
        obtain ⟨j, hj, rfl, xs, hRj, hOnj⟩ := hrel
        generalize wr = w3 at *
        by_cases hjl : j < i
        · obtain ⟨_, _, he, _, _, hAx, _⟩ := own_shape hRj.out
          injection he with e1 e2 e3
          obtain ⟨g, hg⟩ := hAx (by omega)
          rw [← e1] at hg
          obtain ⟨ad, hads⟩ : ∃ ad : Addr, A = some ad := ⟨_, hg⟩
          clear hg e1 e2 e3 hAx
          subst hads
          have i1 : (0 : Int) ≤ (j : Int) := by omega
          have i2 : (j : Int) < (i : Int) := by omega
          go_wp2_with (refine store_own (W := w3) (by rfl) (by rfl) _ _ _ (by rfl) 31 10 ad i cx j xs _ (nodeC 95) (by rfl) (by rfl) (by rfl) sizeEx (by rfl) (nodeC_one 95) hRj.out hjl ?_)
          intro w4 xs' hrow4 hxs4 hOn4
          go_wp2_with fail
          go_roundw
          case rel => exact ⟨j + 1, by omega, by go_num, xs', hrow4, Lib.hid (hOnj.out.same (hOn4.out.mono (fun b _ hb => HGT.out b (HBLK.out _ _ b hb))))⟩
          case measure => simp [intOf]; omega
        · obtain rfl : j = i := by omega
          have HROW0 := hRj
          have HOn1 := hOnj
          go_wp2_with fail
          go_loopw [8, 9] (fun t8 t9 wr => ∃ (i m' : Nat) (A' : Option Addr) (cap' : Nat) (xs : List Value), i ≤ 70000 ∧ t9 = .int .i64 i ∧ t8 = .slice A' m' cap' ∧ Hid (m' = j + i) ∧ Hid (wr.ownsRow 0 31 10 (.slice A' m' cap') m' xs) ∧ Hid (∀ b, (Value.slice A' m' cap').ownBlock = some b → b ∈ keys (entH x) ∨ w.heap.size ≤ b) ∧ Hid (Only (fun b => b ∈ keys (entH x)) w wr)) (fun _ t9 _ => 70001 - (intOf t9).toNat)
          case atStart => exact ⟨0, j, A, cx, xs, by omega, rfl, rfl, Lib.hid rfl, HROW0, Lib.hid (fun b hb => Or.inl (HGT.out b (HBLK.out _ _ b hb))), HOn1⟩
          case round =>
            clear hRj hOnj
            obtain ⟨p, m', A', cap', xs, hi', rfl, rfl, hm', HRO, hBk, hOnw⟩ := hrel
            generalize wr = w3 at *
            have hl1 : (m' + 1) * 120 ≤ 140737488355328 := by have := hm'.out; omega
            obtain ⟨_, _, he, hs1, hs2, -, -⟩ := own_shape HRO.out
            injection he with he1 he2 he3
            subst he3
            clear he1 he2
            by_cases h1 : p < 12
            · have d1 : decide ((p : Int) < 12) = true := decide_eq_true (by omega)
              go_wp2_with (at_builtin; go_must (refine app_cells (W := w3) w3.heap.size (by rfl) (by rfl) _ _ 24 31 _ 10 120 (by rfl) Try.underlying24 infoEx (by rfl) (by decide) (by decide) A' m' cap' xs (nodeC 94) HRO.out (by rfl) (nodeC_one 94) (by rfl) (by rfl) hl1 ?_))
              intro A2 cap2 w5 hO5 hOn5 hB5
              go_wp2_with fail
              go_roundw
              case rel =>
                refine ⟨p + 1, m' + 1, A2, cap2, _, by omega, by go_num, rfl, Lib.hid (by have := hm'.out; omega), hO5, Lib.hid (fun b hb => ?_), Lib.hid (hOnw.out.trans hOn5.out (fun b hb hb' => ?_))⟩
                · rcases hB5.out b hb with h | h
                  · exact hBk.out b h
                  · exact Or.inr (by have := hOnw.out.size; omega)
                · rcases hBk.out b hb' with h | h
                  · exact h
                  · omega
              case measure => simp [intOf]; omega
            · have d1 : decide ((p : Int) < 12) = false := decide_eq_false (by omega)
              by_cases h2 : m' < cx
              · have d2 : decide (m' < cx) = true := decide_eq_true h2
                by_cases h3 : p < 70000
                · have d3 : decide ((p : Int) < 70000) = true := decide_eq_true (by omega)
                  go_wp2_with (at_builtin; go_must (refine app_cells (W := w3) w3.heap.size (by rfl) (by rfl) _ _ 24 31 _ 10 120 (by rfl) Try.underlying24 infoEx (by rfl) (by decide) (by decide) A' m' cap' xs (nodeC 94) HRO.out (by rfl) (nodeC_one 94) (by rfl) (by rfl) hl1 ?_))
                  intro A2 cap2 w5 hO5 hOn5 hB5
                  go_wp2_with fail
                  go_roundw
                  case rel =>
                    refine ⟨p + 1, m' + 1, A2, cap2, _, by omega, by go_num, rfl, Lib.hid (by have := hm'.out; omega), hO5, Lib.hid (fun b hb => ?_), Lib.hid (hOnw.out.trans hOn5.out (fun b hb hb' => ?_))⟩
                    · rcases hB5.out b hb with h | h
                      · exact hBk.out b h
                      · exact Or.inr (by have := hOnw.out.size; omega)
                    · rcases hBk.out b hb' with h | h
                      · exact h
                      · omega
                  case measure => simp [intOf]; omega
                · have d3 : decide ((p : Int) < 70000) = false := decide_eq_false (by omega)
                  go_wp2_with fail
                  go_ret
                  exact ⟨rfl, hOnw.out⟩
              · have d2 : decide (m' < cx) = false := decide_eq_false h2
                go_wp2_with fail
                go_ret
                exact ⟨rfl, hOnw.out⟩
end Go.Proofs.Ytgnifglolbfamaa

/- The law's last loop: what is left of a layout that is being written over (Lft). -/
set_option linter.unusedVariables false
set_option linter.unusedSimpArgs false
namespace Go.Proofs.Ytgnifglolbfamaa
open Go.RowKit Go.Proofs.YtgnifglolbfamaaW.PrintWords

theorem put_at (l seg : List Value) (o m i : Nat) (hl : o + seg.length ≤ m) (ho : o ≤ l.length) : (i < o → ((l.take o ++ seg ++ l.drop (o + seg.length)).take m)[i]? = (l.take m)[i]?) ∧ (i < seg.length → ((l.take o ++ seg ++ l.drop (o + seg.length)).take m)[o + i]? = seg[i]?) := by
  have hlen : (l.take o).length = o := by rw [List.length_take, Nat.min_eq_left ho]
  constructor
  · intro hi
    rw [List.getElem?_take, if_pos (by omega), List.getElem?_take, if_pos (by omega), List.append_assoc, List.getElem?_append_left (by omega), List.getElem?_take, if_pos hi]
  · intro hi
    rw [List.getElem?_take, if_pos (by omega), List.append_assoc, List.getElem?_append_right (by omega), hlen, show o + i - o = i by omega, List.getElem?_append_left hi]
section
variable {P : Program} {ops : Array Oper} {rest : List Oper} {o : Oper} {a : Act} {Q : Exit → Act → World → Prop}
/-- out[k] = T{..}, what the row holds then told whole. -/
theorem store_own2 {W : World} (hN : o.dst = none) (hgd : o.guard = none) (t : TypeId) (p x : Operand) (ho : o.op = .store t p x) (e : TypeId) (sz : Nat) (ad : Addr) (n cap k : Nat) (xs : List Value) (u : Value) (seg : List Value)
    (haddr : a.eval p = .pointer (some (ad.add (k * sz)))) (hx : a.eval x = u) (hu : u.cells.toList = seg) (ht : (P.info? t).map (·.size) = some seg.length) (hsz : seg.length = sz) (h1 : ∀ q ∈ seg, q.oneCell' = true)
    (hO : W.ownsRow 0 e sz (.slice (some ad) n cap) n xs) (hk : k < n)
    (h : ∀ w1 xs', Hid (w1.ownsRow 0 e sz (.slice (some ad) n cap) n xs') → Hid (xs'.drop ((k + 1) * sz) = xs.drop ((k + 1) * sz)) → Hid (∀ i, i < k * sz → xs'[i]? = xs[i]?) → Hid (∀ i, i < sz → xs'[k * sz + i]? = seg[i]?) → Hid (Only (fun b => (Value.slice (some ad) n cap).ownBlock = some b) W w1) → wpList P ops Q rest a w1) : wpList P ops Q (o :: rest) a W := by
  obtain ⟨hl, hh⟩ := hO
  rcases hh with ⟨he, h0⟩ | ⟨g, cap', cur, he, hb, hg, hnc, hm, hcs, htk⟩
  · injection he with h1 h2 h3
    cases h1
  injection he with e1 e2 e3
  injection e1 with e1
  subst e1
  subst e3
  rw [add_plain] at haddr
  have hks : k * sz + sz ≤ n * sz := by rw [← Nat.succ_mul]; exact Nat.mul_le_mul_right _ hk
  have hns : n * sz ≤ cap * sz := Nat.mul_le_mul_right _ hnc
  have hfit : k * sz + seg.length ≤ cur.size := by omega
  have hrun : (Instr.storeAt t (.pointer (some ⟨g, k * sz, none⟩)) u).run P W = .ok () (W.setCells g (k * sz) seg) := run_store_run t u seg hg hu ht hfit h1
  obtain ⟨cur', h3, h4, h5⟩ := setCells_row seg (k * sz) W cur hg hfit
  obtain ⟨s1, s2, s3, s4⟩ := setCells_same g seg (k * sz) W
  have hpt := fun i => put_at cur.toList seg (k * sz) (n * sz) i (by omega) (by rw [Array.length_toList]; omega)
  refine wpList_plain hgd fun K hK => ?_
  unfold Oper.wp execOp
  simp only [ho, haddr, hx, Sem.run_bind, Sem.run_pure, Result.andThen_ok, hrun]
  show K (a.put o.dst undef) _
  rw [hN]
  refine hK a _ (h _ ((cur'.toList).take (n * sz)) (Lib.hid ⟨?_, .inr ⟨g, cap, cur', rfl, hb, h3, hnc, hm, by rw [h4, hcs], rfl⟩⟩) (Lib.hid ?_) (Lib.hid (fun i hi => ?_)) (Lib.hid (fun i hi => ?_)) (Lib.hid ⟨s1, s2, s3, by rw [s4]; exact Nat.le_refl _, fun b _ hn => setCells_far seg _ b (fun e => hn (by rw [e]; rfl))⟩))
  · rw [List.length_take, Array.length_toList, h4, hcs]
    omega
  · rw [h5, ← htk]
    exact put_drop cur.toList seg (k * sz) ((k + 1) * sz) (n * sz) (by rw [hsz, Nat.succ_mul]) (by rw [Array.length_toList]; omega)
  · rw [h5, ← htk]
    exact (hpt i).1 hi
  · rw [h5]
    exact (hpt i).2 (by omega)
end

/-- A row whose elements from the k-th on are as in ys. -/
def RowD (w : World) (e : TypeId) (sz : Nat) (v : Value) (n k : Nat) (ys : List Value) : Prop := ∃ xs, w.ownsRow 0 e sz v n xs ∧ xs.drop (k * sz) = ys.drop (k * sz)
theorem drop_at_of {xs ys : List Value} {o i : Nat} (h : xs.drop o = ys.drop o) (hi : o ≤ i) : xs[i]? = ys[i]? := by
  have := congrArg (fun l => l[i - o]?) h
  simp only [List.getElem?_drop] at this
  rwa [show o + (i - o) = i by omega] at this
theorem RowD.only {w w' : World} {e : TypeId} {sz n k : Nat} {v : Value} {ys : List Value} {S : Nat → Prop} (h : RowD w e sz v n k ys) (ho : Only S w w') (hn : ∀ b, v.ownBlock = some b → ¬ S b) : RowD w' e sz v n k ys := by
  obtain ⟨xs, h1, h2⟩ := h
  exact ⟨xs, ho.own h1 hn, h2⟩
theorem RowD.at_ {α : Type} {w : World} {e : TypeId} {sz S cap k : Nat} {l : List α} {f : α → List Value} (hf : ∀ x, (f x).length = sz) (h : RowD w e sz (.slice (some ⟨S, 0, none⟩) l.length cap) l.length k (l.flatMap f)) (i : Nat) (hi : i < l.length) (hk : k ≤ i) : ∀ c, c < sz → w.cell? ⟨S, i * sz + c, none⟩ = (f l[i])[c]? := by
  intro c hc
  obtain ⟨xs, h1, h2⟩ := h
  have hlt : i * sz + c < l.length * sz := by
    have := Nat.mul_le_mul_right sz (show i + 1 ≤ l.length from hi)
    rw [Nat.succ_mul] at this
    omega
  rw [h1.cellAt _ hlt, drop_at_of h2 (by have := Nat.mul_le_mul_right sz hk; omega)]
  have hfl := flat_at f sz l (fun x _ => hf x) i _ (List.getElem?_eq_getElem hi)
  have h3 := congrArg (fun z => z[c]?) hfl
  simp only [List.getElem?_take, if_pos hc, List.getElem?_drop] at h3
  exact h3

theorem flat_disj {α : Type} {f : α → List Nat} {l : List α} (h : (l.flatMap f).Nodup) : (∀ i (hi : i < l.length), (f l[i]).Nodup) ∧ ∀ i j (hi : i < l.length) (hj : j < l.length), i ≠ j → ∀ b ∈ f l[i], b ∉ f l[j] := by
  unfold List.Nodup at h
  rw [List.pairwise_flatMap] at h
  refine ⟨fun i hi => h.1 _ (List.getElem_mem hi), fun i j hi hj hij b hb hb' => ?_⟩
  have hp := List.pairwise_iff_getElem.1 h.2
  rcases Nat.lt_or_gt_of_ne hij with hlt | hlt
  · exact hp i j hi hj hlt b hb b hb' rfl
  · exact hp j i hj hi hlt b hb' b hb rfl
theorem lay_disj {y : Lay} (h : (keys (entL y)).Nodup) : (keys (entH y.fin)).Nodup ∧ y.S ∉ keys (entH y.fin) ∧ (∀ i (hi : i < y.l.length), (keys (entS y.l[i])).Nodup ∧ y.S ∉ keys (entS y.l[i]) ∧ ∀ b ∈ keys (entS y.l[i]), b ∉ keys (entH y.fin)) ∧ (∀ i j (hi : i < y.l.length) (hj : j < y.l.length), i ≠ j → ∀ b ∈ keys (entS y.l[i]), b ∉ keys (entS y.l[j])) := by
  have e : keys (entL y) = y.S :: (keys (entH y.fin) ++ y.l.flatMap (fun s => keys (entS s))) := by
    unfold entL
    show y.S :: keys (entH y.fin ++ y.l.flatMap entS) = _
    rw [keys_append, keys_flat]
  rw [e, List.nodup_cons, List.nodup_append] at h
  obtain ⟨h1, h2, h3, h4⟩ := h
  obtain ⟨d1, d2⟩ := flat_disj h3
  refine ⟨h2, fun hb => h1 (List.mem_append_left _ hb), fun i hi => ⟨d1 i hi, fun hb => h1 (List.mem_append_right _ (List.mem_flatMap.2 ⟨_, List.getElem_mem hi, hb⟩)), fun b hb hb' => h4 b hb' b (List.mem_flatMap.2 ⟨_, List.getElem_mem hi, hb⟩) rfl⟩, d2⟩

/-- What is left of a layout, i stages being written over; E0: what is left of the i-th. -/
structure Lft (yl : Lay) (Wk : World) (i i' : Nat) (E0 : List Ent) (w : World) : Prop where
  only : Only (fun b => b ∈ keys (entL yl)) Wk w
  rest : ∀ j (hj : j < yl.l.length), i' ≤ j → AllOwn w (entS yl.l[j])
  row : RowD w 71 7 (.slice (some ⟨yl.S, 0, none⟩) yl.l.length yl.l.length) yl.l.length i (yl.l.flatMap cellsS)
  left : AllOwn w E0
theorem key_S {y : Lay} {i : Nat} (hi : i < y.l.length) : ∀ b ∈ keys (entS y.l[i]), b ∈ keys (entL y) := fun b hb => by
  obtain ⟨E, hE, rfl⟩ := List.mem_map.1 hb
  exact List.mem_map.2 ⟨E, List.mem_cons_of_mem _ (List.mem_append_right _ (List.mem_flatMap.2 ⟨_, List.getElem_mem hi, hE⟩)), rfl⟩
theorem key_F {y : Lay} : ∀ b ∈ keys (entH y.fin), b ∈ keys (entL y) := fun b hb => by
  obtain ⟨E, hE, rfl⟩ := List.mem_map.1 hb
  exact List.mem_map.2 ⟨E, List.mem_cons_of_mem _ (List.mem_append_left _ hE), rfl⟩
theorem Lft.begin {yl : Lay} {Wk w : World} (hnd : (keys (entL yl)).Nodup) (h : AllOwn Wk (entL yl)) (ho : Only (fun b => b ∈ keys (entH yl.fin)) Wk w) : Lft yl Wk 0 0 [] w := by
  obtain ⟨_, d1, d2, _⟩ := lay_disj hnd
  refine ⟨ho.mono (fun b _ hb => key_F b hb), fun j hj _ => (h.sub (fun E hE => List.mem_cons_of_mem _ (List.mem_append_right _ (List.mem_flatMap.2 ⟨_, List.getElem_mem hj, hE⟩)))).only ho (fun b hb => (d2 j hj).2.2 b hb), ⟨_, ho.own (h _ List.mem_cons_self) (fun b hb => ?_), rfl⟩, fun E hE => by cases hE⟩
  have : yl.S = b := by simpa [Value.ownBlock] using hb
  exact this ▸ d1
theorem Lft.opened {yl : Lay} {Wk w : World} {i : Nat} (hi : i < yl.l.length) (h : Lft yl Wk i i [] w) : Lft yl Wk i (i + 1) (entS yl.l[i]) w :=
  ⟨h.only, fun j hj hij => h.rest j hj (by omega), h.row, h.rest i hi (Nat.le_refl _)⟩
theorem Lft.step {yl : Lay} {Wk w w' : World} {i : Nat} {E0 E1 : List Ent} {S : Nat → Prop} (hnd : (keys (entL yl)).Nodup) (hlt : ∀ b ∈ keys (entL yl), b < Wk.heap.size) (hi : i < yl.l.length) (h : Lft yl Wk i (i + 1) E0 w) (ho : Only S w w')
    (hS : ∀ b, S b → b ∈ keys (entS yl.l[i]) ∨ Wk.heap.size ≤ b) (hE : ∀ E ∈ E1, E ∈ E0 ∧ ¬ S E.b) : Lft yl Wk i (i + 1) E1 w' := by
  obtain ⟨_, d1, d2, d3⟩ := lay_disj hnd
  refine ⟨h.only.trans ho (fun b hb hs => (hS b hs).elim (key_S hi b) (fun h => by omega)), fun j hj hij => (h.rest j hj hij).only ho (fun b hb hs => ?_), h.row.only ho (fun b hb hs => ?_), fun E hE' => (h.left E (hE E hE').1).only ho (hE E hE').2⟩
  · rcases hS b hs with h1 | h1
    · exact d3 i j hi hj (by omega) b h1 hb
    · have := hlt b (key_S hj b hb); omega
  · have : yl.S = b := by simpa [Value.ownBlock] using hb
    subst this
    rcases hS _ hs with h1 | h1
    · exact (d2 i hi).2.1 h1
    · have := hlt yl.S (List.mem_map.2 ⟨_, List.mem_cons_self, rfl⟩); omega
theorem Lft.next {yl : Lay} {Wk w w' : World} {i : Nat} {xs xs' : List Value} (hnd : (keys (entL yl)).Nodup) (hi : i < yl.l.length) (h : Lft yl Wk i (i + 1) [] w) (ho : Only (fun b => (Value.slice (some ⟨yl.S, 0, none⟩) yl.l.length yl.l.length).ownBlock = some b) w w')
    (hx : xs.drop (i * 7) = (yl.l.flatMap cellsS).drop (i * 7)) (hO : w'.ownsRow 0 71 7 (.slice (some ⟨yl.S, 0, none⟩) yl.l.length yl.l.length) yl.l.length xs') (hd : xs'.drop ((i + 1) * 7) = xs.drop ((i + 1) * 7)) : Lft yl Wk (i + 1) (i + 1) [] w' := by
  obtain ⟨_, d1, d2, d3⟩ := lay_disj hnd
  have hSb : ∀ b, (Value.slice (some ⟨yl.S, 0, none⟩) yl.l.length yl.l.length).ownBlock = some b → b = yl.S := fun b hb => by
    have : yl.S = b := by simpa [Value.ownBlock] using hb
    exact this.symm
  refine ⟨h.only.trans ho (fun b _ hs => by rw [hSb b hs]; exact List.mem_map.2 ⟨_, List.mem_cons_self, rfl⟩), fun j hj hij => (h.rest j hj hij).only ho (fun b hb hs => by rw [hSb b hs] at hb; exact (d2 j hj).2.1 hb), ⟨xs', hO, ?_⟩, fun E hE => by cases hE⟩
  rw [hd, show (i + 1) * 7 = i * 7 + 7 by omega, ← List.drop_drop, hx, List.drop_drop]
/-- The parts of a stage. -/
theorem same_stage (s s' : TS) (w : World) (hs : WfS s) (hs' : WfS s') (he : sgT s' = sgT s) (h : AllOwn w (entS s)) (h' : AllOwn w (entS s')) :
    Calls Try.prog 24 #[.agg #[.string s.f0, .string s.f1, .bool s.f2, svT s.n, svT s.b, svT s.t, svT s.c], .agg #[.string s'.f0, .string s'.f1, .bool s'.f2, svT s'.n, svT s'.b, svT s'.t, svT s'.c]] w (True_ w) := by
  unfold sgT at he
  injection he with e0 e1 e2 e3 e4 e5 e6
  have r3 := (read_N hs.n (h.sub entS_n)).2
  have r4 := read_H hs.b (h.sub entS_b)
  have r5 := read_H hs.t (h.sub entS_t)
  have r6 := read_H hs.c (h.sub entS_c)
  have q3 := (read_N hs'.n (h'.sub entS_n)).2
  have q4 := read_H hs'.b (h'.sub entS_b)
  have q5 := read_H hs'.t (h'.sub entS_t)
  have q6 := read_H hs'.c (h'.sub entS_c)
  have l3 := congrArg List.length e3
  have l4 := congrArg List.length e4
  have l5 := congrArg List.length e5
  have l6 := congrArg List.length e6
  unfold rdH at *
  rw [e3] at q3
  rw [e4] at q4
  rw [e5] at q5
  rw [e6] at q6
  simp only [List.length_map] at l3 l4 l5 l6
  have := sameStage_same (sgT s) _ _ _ _ _ _ _ _ s.n.2.1 s.b.2.1 s.t.2.1 s.c.2.1 s'.n.2.1 s'.b.2.1 s'.t.2.1 s'.c.2.1 w
    (by unfold sgT; simp only [List.length_map]; exact r3) (by unfold sgT rdH; simp only [List.length_map]; exact r4) (by unfold sgT rdH; simp only [List.length_map]; exact r5) (by unfold sgT rdH; simp only [List.length_map]; exact r6)
    (by unfold sgT; simp only [List.length_map]; rw [← l3]; exact q3) (by unfold sgT rdH; simp only [List.length_map]; rw [← l4]; exact q4) (by unfold sgT rdH; simp only [List.length_map]; rw [← l5]; exact q5) (by unfold sgT rdH; simp only [List.length_map]; rw [← l6]; exact q6)
  unfold sgT rdH at this
  simp only [List.length_map] at this
  unfold svT
  rw [e0, e1, e2, l3, l4, l5, l6]
  exact this
end Go.Proofs.Ytgnifglolbfamaa
