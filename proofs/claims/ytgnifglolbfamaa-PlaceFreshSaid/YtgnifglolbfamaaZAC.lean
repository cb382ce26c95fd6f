/- Texts of the claim, merged in build order: PlF, PlG, PlH. -/
import Derived.Test.YtgnifglolbfamaaZAB
/- The walks of many, iterating, behind, later. -/
set_option linter.unusedVariables false
set_option linter.unusedSimpArgs false
namespace Go.Proofs.Ytgnifglolbfamaa
open Go.RowKit Go.Proofs.YtgnifglolbfamaaW.PrintWords

def manyB (neg plus : Bool) : Bool := plus && !neg
def iterAt (n : Int) : Bool := n == 2 || n == 3 || n == 7
/-- A moment behind another one. -/
def behindB (s : Int) (c : Bool) (s' : Int) (c' : Bool) : Bool := decide (s > s') || (s == s' && c && !c')

set_option maxHeartbeats 1000000 in
theorem many_any (neg plus : Bool) (t v : ByteArray) (w : World) :
    Calls Try.prog 69 #[.agg #[.bool neg, .bool plus, .string t, .string v]] w fun e w' => e = .returned (.bool (manyB neg plus)) ∧ Below w.heap.size w w' := by
  cases neg <;> cases plus
  all_goals
    go_enter Try.func69, Try.ntmps69
    go_wp2_with fail
    go_ret
    exact ⟨rfl, below_new _ _⟩

set_option maxHeartbeats 1000000 in
theorem iterating_any (s : ByteArray) (n : Int) (t : ByteArray) (f : Int) (w : World) :
    Calls Try.prog 70 #[.agg #[.string s, .int .i64 n, .string t, .int .i64 f]] w fun e w' => e = .returned (.bool (iterAt n)) ∧ Below w.heap.size w w' := by
  obtain ⟨b, hb⟩ : ∃ b, b = iterAt n := ⟨_, rfl⟩
  rw [← hb]
  unfold iterAt at hb
  have HB := Lib.hid hb
  clear hb
  rcases Bool.eq_false_or_eq_true (n == 2) with d1 | d1
  · go_enter Try.func70, Try.ntmps70
    go_wp2_with fail
    go_ret
    exact ⟨by rw [HB.out, d1]; rfl, below_new _ _⟩
  · rcases Bool.eq_false_or_eq_true (n == 3) with d2 | d2
    · go_enter Try.func70, Try.ntmps70
      go_wp2_with fail
      go_ret
      exact ⟨by rw [HB.out, d1, d2]; rfl, below_new _ _⟩
    · rcases Bool.eq_false_or_eq_true (n == 7) with d3 | d3
      all_goals
        go_enter Try.func70, Try.ntmps70
        go_wp2_with fail
        go_ret
        exact ⟨by rw [HB.out, d1, d2, d3]; rfl, below_new _ _⟩

set_option maxHeartbeats 1000000 in
theorem behind_any (s : Int) (c : Bool) (s' : Int) (c' : Bool) (w : World) :
    Calls Try.prog 71 #[.agg #[.int .i64 s, .bool c], .agg #[.int .i64 s', .bool c']] w fun e w' => e = .returned (.bool (behindB s c s' c')) ∧ Below w.heap.size w w' := by
  obtain ⟨b, hb⟩ : ∃ b, b = behindB s c s' c' := ⟨_, rfl⟩
  rw [← hb]
  unfold behindB at hb
  have HB := Lib.hid hb
  clear hb
  rcases Bool.eq_false_or_eq_true (decide (s > s')) with d1 | d1
  · go_enter Try.func71, Try.ntmps71
    go_wp2_with fail
    go_ret
    exact ⟨by rw [HB.out, d1]; rfl, below_step (below_new _ _) (below_new _ _)⟩
  · rcases Bool.eq_false_or_eq_true (s == s') with d2 | d2
    · cases c <;> cases c'
      all_goals
        go_enter Try.func71, Try.ntmps71
        go_wp2_with fail
        go_ret
        exact ⟨by rw [HB.out, d1, d2]; rfl, below_step (below_new _ _) (below_new _ _)⟩
    · go_enter Try.func71, Try.ntmps71
      go_wp2_with fail
      go_ret
      exact ⟨by rw [HB.out, d1, d2]; rfl, below_step (below_new _ _) (below_new _ _)⟩

theorem blk_new1 (w : World) (A B : Obj) : ((w.alloc A).alloc B).heap[w.heap.size + 1]? = some B := by
  have := blk_new (w.alloc A) B
  rwa [alloc_size'] at this
theorem blk_new2 (w : World) (A B C : Obj) : (((w.alloc A).alloc B).alloc C).heap[w.heap.size + 1 + 1]? = some C := by
  have := blk_new ((w.alloc A).alloc B) C
  rwa [alloc_size', alloc_size'] at this
theorem below_new3 (w : World) (A B C : Obj) : Below w.heap.size w (((w.alloc A).alloc B).alloc C) := below_step (below_step (below_new _ _) (below_new _ _)) (below_new _ _)
/-- The later of two moments. -/
def laterM (m o : Int × Bool) : Int × Bool := if behindB o.1 o.2 m.1 m.2 then o else m
set_option maxHeartbeats 1000000 in
theorem later_any (m o : Int × Bool) (w : World) :
    Calls Try.prog 59 #[.agg #[.int .i64 m.1, .bool m.2], .agg #[.int .i64 o.1, .bool o.2]] w fun e w' => e = .returned (.agg #[.int .i64 (laterM m o).1, .bool (laterM m o).2]) ∧ Below w.heap.size w w' := by
  obtain ⟨s, c⟩ := m
  obtain ⟨s', c'⟩ := o
  have hb := behind_any s' c' s c
  obtain ⟨b, hbb⟩ : ∃ b, b = behindB s' c' s c := ⟨_, rfl⟩
  have HL := Lib.hid (show laterM (s, c) (s', c') = if b then (s', c') else (s, c) by rw [laterM, hbb])
  generalize laterM (s, c) (s', c') = r at *
  rw [← hbb] at hb
  have HBB := Lib.hid hb
  clear hb hbb
  cases b
  all_goals
    go_enter Try.func59, Try.ntmps59
    go_wp2_with fail
    refine (HBB.out _).mono ?_
    rintro e W1 ⟨rfl, hb1⟩
    have hA := blk_below (blk_alloc (blk_alloc (blk_new w (.cells #[.int .i64 s, .bool c] 129)) (.cells #[.int .i64 s', .bool c'] 129)) (.cells #[.int .i64 0, .bool false] 129)) hb1
    have hB := blk_below (blk_alloc (blk_new1 w (.cells #[.int .i64 s, .bool c] 129) (.cells #[.int .i64 s', .bool c'] 129)) (.cells #[.int .i64 0, .bool false] 129)) hb1
    have hZ := blk_below (blk_new2 w (.cells #[.int .i64 s, .bool c] 129) (.cells #[.int .i64 s', .bool c'] 129) (.cells #[.int .i64 0, .bool false] 129)) hb1
    have hBl := below_step (below_new3 w (.cells #[.int .i64 s, .bool c] 129) (.cells #[.int .i64 s', .bool c'] 129) (.cells #[.int .i64 0, .bool false] 129)) hb1
    clear hb1
    have a0 := (blk_cell hA 0).trans rfl
    have a1 := (blk_cell hA 1).trans rfl
    have b0 := (blk_cell hB 0).trans rfl
    have b1 := (blk_cell hB 1).trans rfl
    have z0 := (blk_cell hZ 0).trans rfl
    have z1 := (blk_cell hZ 1).trans rfl
    have f0 := blk_frozen hZ 0
    have f1 := blk_frozen hZ 1
    go_wp2_with fail
  · refine bodyPost_ret (results_cell_row rfl _ _ (w.heap.size + 1 + 1) 129 #[.int .i64 s, .bool c] (0, 0) _ rfl (blk_set (blk_set hZ 0 (.int .i64 s)) 1 (.bool c)) Try.underlying129 rfl (by kernel_rfl)) rfl ?_
    exact ⟨by rw [HL.out]; rfl, (hBl.setCell (p := ⟨w.heap.size + 1 + 1, 0, none⟩) (by show w.heap.size ≤ w.heap.size + 1 + 1; omega) _).setCell (p := ⟨w.heap.size + 1 + 1, 1, none⟩) (by show w.heap.size ≤ w.heap.size + 1 + 1; omega) _⟩
  · refine bodyPost_ret (results_cell_row rfl _ _ (w.heap.size + 1 + 1) 129 #[.int .i64 s', .bool c'] (0, 0) _ rfl (blk_set (blk_set hZ 0 (.int .i64 s')) 1 (.bool c')) Try.underlying129 rfl (by kernel_rfl)) rfl ?_
    exact ⟨by rw [HL.out]; rfl, (hBl.setCell (p := ⟨w.heap.size + 1 + 1, 0, none⟩) (by show w.heap.size ≤ w.heap.size + 1 + 1; omega) _).setCell (p := ⟨w.heap.size + 1 + 1, 1, none⟩) (by show w.heap.size ≤ w.heap.size + 1 + 1; omega) _⟩
end Go.Proofs.Ytgnifglolbfamaa

/- The walk of pattern.used. -/
set_option linter.unusedVariables false
set_option linter.unusedSimpArgs false
namespace Go.Proofs.Ytgnifglolbfamaa
open Go.RowKit Go.Proofs.YtgnifglolbfamaaW.PrintWords

theorem vix_bound : ∀ (cs : List Cp) (s : List UInt8) (i : Int), vix cs s = some i → 0 ≤ i ∧ i < cs.length
  | [], s, i, h => by simp [vix] at h
  | c :: cs, s, i, h => by
    simp only [vix] at h
    split at h
    · injection h with h; subst h; simp
    · cases hv : vix cs s with
      | none => rw [hv] at h; simp at h
      | some j =>
        rw [hv] at h
        have := vix_bound cs s j hv
        simp at h
        subst h
        simp; omega
def manyAt (cs : List Cp) (i : Nat) : Bool := manyB (cs.getD i zCp).f0 (cs.getD i zCp).f1
def usedErr (cs : List Cp) (r : Rf) : Int :=
  match vix cs r.f0.data.toList with
  | none => 80
  | some i => if r.f1 < 1 ∨ r.f1 > 7 ∨ manyAt cs i.toNat = (r.f1 == 1) then 81 else 0

theorem PatAt.below {w w' : World} {gp : Nat} {A : Option Addr} {c : Nat} {cs : List Cp} (h : PatAt w gp A c cs) (hb : Below w.heap.size w w') : PatAt w' gp A c cs := by
  obtain ⟨h1, h2, h3, gm, v2, h4, h5, base, h6⟩ := h
  exact ⟨h1, h2, Kd.C_below h3 hb, gm, v2, blk_below h4 hb, h5.below hb, base, Kd.R_below h6 hb⟩

set_option maxHeartbeats 2000000 in
set_option maxRecDepth 100000 in
theorem used_any (cs : List Cp) (gp : Nat) (A : Option Addr) (c : Nat) (r : Rf) (w : World) (hp : PatAt w gp A c cs) (hr : r.f0.size ≤ maxLen) :
    Calls Try.prog 57 #[.pointer (some ⟨gp, 0, none⟩), .agg #[.string r.f0, .int .i64 r.f1, .string r.f2, .int .i64 r.f3]] w fun e w' => e = .returned (.int .i64 (usedErr cs r)) ∧ Below w.heap.size w w' := by
  have hp1 := hp.below (below_new w (.cells #[.string r.f0, .int .i64 r.f1, .string r.f2, .int .i64 r.f3] 42))
  have hbx := blk_new w (.cells #[.string r.f0, .int .i64 r.f1, .string r.f2, .int .i64 r.f3] 42)
  have hB0 := below_new w (.cells #[.string r.f0, .int .i64 r.f1, .string r.f2, .int .i64 r.f3] 42)
  obtain ⟨res, hres⟩ : ∃ res, res = usedErr cs r := ⟨_, rfl⟩
  rw [← hres]
  unfold usedErr at hres
  have HRES := Lib.hid hres
  clear hres hp
  go_enter Try.func57, Try.ntmps57
  go_wp2_with fail
  generalize w.alloc (.cells #[.string r.f0, .int .i64 r.f1, .string r.f2, .int .i64 r.f3] 42) = W1 at *
  obtain ⟨h1, h2, h3, gm, v2, h4, h5, base, h6⟩ := hp1
  have hlk := fun nq => (h5.below (pw_below_drewN (Below.refl _ _) nq)).ok r.f0 hr
  have HC := Lib.hid h3
  have HV2 := Lib.hid h6
  have HM := Lib.hid h5
  have p0 := (blk_cell h4 0).trans rfl
  have p1 := (blk_cell h4 1).trans rfl
  have x0 := (blk_cell hbx 0).trans rfl
  have x1 := (blk_cell hbx 1).trans rfl
  have HN := Lib.hid h2
  clear h2 h3 h5 h6
  obtain ⟨q, hq⟩ : ∃ q, q = vix cs r.f0.data.toList := ⟨_, rfl⟩
  simp only [← hq] at hlk
  have HQ := Lib.hid hq
  clear hq
  cases q with
  | none =>
    simp only [Option.getD_none, Option.isSome_none] at hlk
    go_quiet (fail)
    go_wp2_with fail
    go_ret
    exact ⟨by rw [HRES.out, ← HQ.out]; rfl, pw_below_drewN hB0 _⟩
  | some i =>
    obtain ⟨hi0, hi1⟩ := vix_bound _ _ _ HQ.out.symm
    simp only [Option.getD_some, Option.isSome_some] at hlk
    go_quiet (fail)
    go_wp2_with fail
    clear hlk p0 p1 x0 x1
    have hB2 : Below W1.heap.size W1 (W1.drewN nq) := pw_below_drewN (Below.refl _ _) nq
    generalize W1.drewN nq = W2 at *
    have hB := below_step hB0 hB2
    have h4' := blk_below h4 hB2
    have hbx' := blk_below hbx hB2
    obtain ⟨j, rfl⟩ : ∃ j : Nat, i = j := ⟨i.toNat, by omega⟩
    have hj : j < cs.length := by omega
    obtain ⟨ad, rfl, c0, c1, c2, c3⟩ := atCpN (Kd.C_below HC.out hB2) j hj hj
    have HMA := Lib.hid (show manyAt cs j = manyB cs[j].f0 cs[j].f1 by simp [manyAt, List.getD_eq_getElem?_getD, List.getElem?_eq_getElem hj])
    have HR2 := Lib.hid (show res = if r.f1 < 1 ∨ r.f1 > 7 ∨ manyB cs[j].f0 cs[j].f1 = (r.f1 == 1) then 81 else 0 by
      rw [HRES.out, ← HQ.out]; simp only [Int.toNat_natCast, HMA.out])
    generalize cs[j] = y at *
    clear HMA
    have p0 := (blk_cell h4' 0).trans rfl
    have x1 := (blk_cell hbx' 1).trans rfl
    have i0 : (0 : Int) ≤ (j : Int) := by omega
    have i1 : (j : Int) < cs.length := by omega
    by_cases g1 : r.f1 < 1
    · have d1 : decide (r.f1 < 1) = true := by simpa using g1
      have HE := Lib.hid (show res = 81 by rw [HR2.out, if_pos (Or.inl g1)])
      clear g1
      go_wp2_with fail
      go_quiet (fail)
      go_wp2_with fail
      go_ret
      exact ⟨by rw [HE.out]; rfl, pw_below_drewN hB _⟩
    · have d1 : decide (r.f1 < 1) = false := by simpa using g1
      by_cases g2 : r.f1 > 7
      · have d2 : decide (r.f1 > 7) = true := by simpa using g2
        have HE := Lib.hid (show res = 81 by rw [HR2.out, if_pos (Or.inr (Or.inl g2))])
        clear g1 g2
        go_wp2_with fail
        go_quiet (fail)
        go_wp2_with fail
        go_ret
        exact ⟨by rw [HE.out]; rfl, pw_below_drewN hB _⟩
      · have d2 : decide (r.f1 > 7) = false := by simpa using g2
        have HE := Lib.hid (show res = if manyB y.f0 y.f1 = (r.f1 == 1) then 81 else 0 by rw [HR2.out]; simp [g1, g2])
        clear g1 g2 HR2
        obtain ⟨mb, hmb⟩ : ∃ mb, mb = manyB y.f0 y.f1 := ⟨_, rfl⟩
        rw [← hmb] at HE
        have hmc := fun W => many_any y.f0 y.f1 y.f2 y.f3 W
        rw [← hmb] at hmc
        have HMC := Lib.hid hmc
        obtain ⟨eb, heb⟩ : ∃ eb, (r.f1 == 1) = eb := ⟨_, rfl⟩
        rw [heb] at HE
        clear hmc hmb
        have HKeep := Lib.hid (show ∀ w', Below W2.heap.size W2 w' → w'.cell? ⟨gp, 0, none⟩ = some (.slice (some ad) cs.length c) ∧ w'.cell? ⟨w.heap.size, 1, none⟩ = some (.int .i64 r.f1) ∧ w'.cell? (ad.add (j * 4)) = some (.bool y.f0) ∧ w'.cell? ⟨(ad.add (j * 4)).block, (ad.add (j * 4)).off + 1, none⟩ = some (.bool y.f1) ∧ w'.cell? ⟨(ad.add (j * 4)).block, (ad.add (j * 4)).off + 2, none⟩ = some (.string y.f2) ∧ w'.cell? ⟨(ad.add (j * 4)).block, (ad.add (j * 4)).off + 3, none⟩ = some (.string y.f3) from fun w' hb => ⟨pw_cell_below hb p0, pw_cell_below hb x1, pw_cell_below hb c0, pw_cell_below hb c1, pw_cell_below hb c2, pw_cell_below hb c3⟩)
        cases mb <;> cases eb
        all_goals
          go_wp2_with fail
          go_region_held3 (fun w' => w'.cell? ⟨gp, 0, none⟩ = some (.slice (some ad) cs.length c) ∧ w'.cell? ⟨w.heap.size, 1, none⟩ = some (.int .i64 r.f1) ∧ w'.cell? (ad.add (j * 4)) = some (.bool y.f0) ∧ w'.cell? ⟨(ad.add (j * 4)).block, (ad.add (j * 4)).off + 1, none⟩ = some (.bool y.f1) ∧ w'.cell? ⟨(ad.add (j * 4)).block, (ad.add (j * 4)).off + 2, none⟩ = some (.string y.f2) ∧ w'.cell? ⟨(ad.add (j * 4)).block, (ad.add (j * 4)).off + 3, none⟩ = some (.string y.f3)) (first | exact HKeep.out _ (Below.refl _ _) | exact HKeep.out _ (below_drew (Below.refl _ _)) | exact HKeep.out _ (by assumption) | exact HKeep.out _ (below_drew (by assumption))) ((go_at_call 69; refine (HMC.out _).mono ?_; rintro e w5 ⟨rfl, hb5⟩; have hbk : Below W2.heap.size W2 w5 := (by first | exact below_step (below_drew (Below.refl _ _)) hb5 | exact hb5)))
          go_wp2_with fail
          go_ret
          exact ⟨by rw [HE.out]; rfl, below_step hB hbk⟩
end Go.Proofs.Ytgnifglolbfamaa

/- The walk of pattern.mixed. -/
set_option linter.unusedVariables false
set_option linter.unusedSimpArgs false
namespace Go.Proofs.Ytgnifglolbfamaa
open Go.RowKit Go.Proofs.YtgnifglolbfamaaW.PrintWords

def cix (cs : List Cp) (r : Rf) : Int := (vix cs r.f0.data.toList).getD 0
/-- One reference of the first pass: the components that are iterated and negated. -/
def mstepB (b nb : Bool) (i : Int) (p : Int × Int) : Option (Int × Int) :=
  if (b && (decide (p.1 ≥ 0) && (p.1 != i))) = true then none
  else if (nb && (decide (p.2 ≥ 0) && (p.2 != i))) = true then none
  else some (if b then i else p.1, if nb then i else p.2)
def mstep (cs : List Cp) (p : Int × Int) (r : Rf) : Option (Int × Int) := mstepB (iterAt r.f1) (negAt cs (cix cs r).toNat) (cix cs r) p
def mix1 (cs : List Cp) (rs : List Rf) : Option (Int × Int) := rs.foldlM (mstep cs) (-1, -1)
/-- A reference of the second pass that may not stand with the others. -/
def badB (b nb : Bool) (i : Int) (p : Int × Int) (a : Int) : Bool :=
  !b && ((decide (p.1 ≥ 0) && (nb || decide (i > p.1) || (i == p.1 && a != 4))) || (decide (p.1 < 0) && decide (p.2 ≥ 0) && decide (i > p.2)))
def mbad (cs : List Cp) (p : Int × Int) (r : Rf) : Bool := badB (iterAt r.f1) (negAt cs (cix cs r).toNat) (cix cs r) p r.f1
def mixOf (cs : List Cp) (rs : List Rf) : Int × Int × Int :=
  match mix1 cs rs with
  | none => (0, 0, 83)
  | some p => if rs.any (mbad cs p) then (0, 0, 83) else (p.1, p.2, 0)

theorem mix1_snoc (cs : List Cp) (a : List Rf) (r : Rf) : mix1 cs (a ++ [r]) = (mix1 cs a).bind fun p => mstep cs p r := by
  unfold mix1
  rw [List.foldlM_append]
  cases List.foldlM (mstep cs) (-1, -1) a with
  | none => rfl
  | some p => cases h : mstep cs p r <;> simp [List.foldlM, Option.bind, h]
theorem mix1_none (cs : List Cp) (rs : List Rf) (k : Nat) (h : mix1 cs (rs.take k) = none) : mix1 cs rs = none := by
  conv => lhs; rw [← List.take_append_drop k rs]
  unfold mix1 at h ⊢
  rw [List.foldlM_append, h]
  rfl

/-- What mixed is asked of: references whose names stand in the pattern. -/
def RefsIn (cs : List Cp) (rs : List Rf) : Prop := ∀ r ∈ rs, r.f0.size ≤ maxLen ∧ (vix cs r.f0.data.toList).isSome = true

def MixPost (m : Int × Int × Int) (w : World) (e : Ending) (w' : World) : Prop := Below w.heap.size w w' ∧ e = .returned (.tuple #[.int .i64 m.1, .int .i64 m.2.1, .int .i64 m.2.2])

set_option maxHeartbeats 4000000 in
set_option maxRecDepth 100000 in
theorem mixed_any (cs : List Cp) (gp : Nat) (A : Option Addr) (c : Nat) (rs : List Rf) (B : Option Addr) (cb : Nat) (w : World) (hp : PatAt w gp A c cs) (hr : RefsIn cs rs) (hR : kRf.C w B rs.length rs) :
    Calls Try.prog 58 #[.pointer (some ⟨gp, 0, none⟩), .slice B rs.length cb] w (MixPost (mixOf cs rs) w) := by
  have hmx := hR.2.1
  have HP := Lib.hid hp
  have HI := Lib.hid hr
  have HR := Lib.hid hR
  obtain ⟨res, hres⟩ : ∃ res, res = mixOf cs rs := ⟨_, rfl⟩
  rw [← hres]
  unfold mixOf at hres
  have HRES := Lib.hid hres
  clear hp hr hR hres
  go_enter Try.func58, Try.ntmps58
  go_wp2_with fail
  go_loopw [4, 5, 15] (fun t4 t5 t15 wr => ∃ (k : Nat) (it ng : Int), k ≤ rs.length ∧ t15 = .int .i64 k ∧ t4 = .int .i64 it ∧ t5 = .int .i64 ng ∧ Below w.heap.size w wr ∧ Hid (mix1 cs (rs.take k) = some (it, ng))) (fun _ _ t15 _ => rs.length - (intOf t15).toNat)
  case atStart => exact ⟨0, -1, -1, by omega, rfl, rfl, rfl, Below.refl _ _, Lib.hid rfl⟩
  case round =>
    obtain ⟨k, it, ng, hk, rfl, rfl, rfl, hB, hM⟩ := hrel
    by_cases hlt : k < rs.length
    · obtain ⟨ad, rfl, e0, e1, e2, e3⟩ := atRfN HR.out k hlt hlt
      have i1 : (0 : Int) ≤ (k : Int) := by omega
      have i2 : (k : Int) < rs.length := by omega
      have e0 := pw_cell_below hB e0
      have e1 := pw_cell_below hB e1
      have e2 := pw_cell_below hB e2
      have e3 := pw_cell_below hB e3
      obtain ⟨hnm, hin⟩ := HI.out _ (List.getElem_mem hlt)
      have HT := Lib.hid (show mix1 cs (rs.take (k + 1)) = mstep cs (it, ng) rs[k] by rw [List.take_succ_eq_append_getElem hlt, mix1_snoc, hM.out]; rfl)
      generalize rs[k] = r at *
      have hp1 := (HP.out.below hB).below (below_new wr (.cells #[.string r.f0, .int .i64 r.f1, .string r.f2, .int .i64 r.f3] 42))
      obtain ⟨_, _, h3, gm, v2, h4, h5, _, _⟩ := hp1
      have hlk := fun nq => (h5.below (pw_below_drewN (Below.refl _ _) nq)).at_ r.f0 hnm
      obtain ⟨i, hi⟩ := Option.isSome_iff_exists.1 hin
      obtain ⟨hi0, hi1⟩ := vix_bound _ _ _ hi
      obtain ⟨j, rfl⟩ : ∃ j : Nat, i = j := ⟨i.toNat, by omega⟩
      have hj : j < cs.length := by omega
      simp only [hi, Option.getD_some] at hlk
      obtain ⟨ad2, rfl, c0, _, _, _⟩ := atCpN h3 j hj hj
      have HS := Lib.hid (show mix1 cs (rs.take (k + 1)) = mstepB (iterAt r.f1) cs[j].f0 j (it, ng) by
        rw [HT.out]; simp [mstep, cix, hi, negAt, List.getD_eq_getElem?_getD, List.getElem?_eq_getElem hj])
      generalize cs[j].f0 = nb at *
      have p0 := (blk_cell h4 0).trans rfl
      have p1 := (blk_cell h4 1).trans rfl
      have x0 := (blk_cell (blk_new wr (.cells #[.string r.f0, .int .i64 r.f1, .string r.f2, .int .i64 r.f3] 42)) 0).trans rfl
      have hj1 : (0 : Int) ≤ (j : Int) := by omega
      have hj2 : (j : Int) < cs.length := by omega
      clear hi hin HT h3 h5 hi0 hi1
      go_wp2_with fail
      go_quiet (fail)
      have hB2 := below_step hB (pw_below_drewN (below_new wr (.cells #[.string r.f0, .int .i64 r.f1, .string r.f2, .int .i64 r.f3] 42)) nq)
      clear hlk
      go_wp2_with fail
      obtain ⟨b, hb⟩ : ∃ b, b = iterAt r.f1 := ⟨_, rfl⟩
      have hic := fun W => iterating_any r.f0 r.f1 r.f2 r.f3 W
      simp only [← hb] at hic HS
      have p0' := pw_cell_below (pw_below_drewN (Below.refl _ _) nq) p0
      have c0' := pw_cell_below (pw_below_drewN (Below.refl _ _) nq) c0
      clear hb p0 p1 x0 c0 e0 e1 e2 e3 h4
      refine (hic _).mono ?_
      rintro e W3 ⟨rfl, hb3⟩
      have hB3 := below_step hB2 hb3
      have p0 := pw_cell_below hb3 p0'
      have c0 := pw_cell_below hb3 c0'
      clear p0' c0' hb3 hB2 hic
      cases b
      · have t1 := trivial
        cases nb
        · have t0 := trivial
          go_wp2_with fail
          go_roundw
          case rel => exact ⟨k + 1, _, _, by omega, by go_num, rfl, rfl, hB3, Lib.hid (by rw [HS.out]; simp [mstepB, *])⟩
          case measure => simp [intOf]; omega
        · rcases Bool.eq_false_or_eq_true (decide (ng ≥ 0)) with q1 | q1
          · rcases Bool.eq_false_or_eq_true (ng != (j : Int)) with q2 | q2
            · have t0 := trivial
              go_wp2_with fail
              go_ret3
              exact ⟨hB3, by rw [HRES.out, mix1_none cs rs (k + 1) (by rw [HS.out]; simp [mstepB, *])]; rfl⟩
            · have t0 := trivial
              go_wp2_with fail
              go_roundw
              case rel => exact ⟨k + 1, _, _, by omega, by go_num, rfl, rfl, hB3, Lib.hid (by rw [HS.out]; simp [mstepB, *])⟩
              case measure => simp [intOf]; omega
          · have t0 := trivial
            go_wp2_with fail
            go_roundw
            case rel => exact ⟨k + 1, _, _, by omega, by go_num, rfl, rfl, hB3, Lib.hid (by rw [HS.out]; simp [mstepB, *])⟩
            case measure => simp [intOf]; omega
      · rcases Bool.eq_false_or_eq_true (decide (it ≥ 0)) with d1 | d1
        · rcases Bool.eq_false_or_eq_true (it != (j : Int)) with d2 | d2
          · have t1 := trivial
            go_wp2_with fail
            go_ret3
            exact ⟨hB3, by rw [HRES.out, mix1_none cs rs (k + 1) (by rw [HS.out]; simp [mstepB, *])]; rfl⟩
          · have t1 := trivial
            cases nb
            · have t0 := trivial
              go_wp2_with fail
              go_roundw
              case rel => exact ⟨k + 1, _, _, by omega, by go_num, rfl, rfl, hB3, Lib.hid (by rw [HS.out]; simp [mstepB, *])⟩
              case measure => simp [intOf]; omega
            · rcases Bool.eq_false_or_eq_true (decide (ng ≥ 0)) with q1 | q1
              · rcases Bool.eq_false_or_eq_true (ng != (j : Int)) with q2 | q2
                · have t0 := trivial
                  go_wp2_with fail
                  go_ret3
                  exact ⟨hB3, by rw [HRES.out, mix1_none cs rs (k + 1) (by rw [HS.out]; simp [mstepB, *])]; rfl⟩
                · have t0 := trivial
                  go_wp2_with fail
                  go_roundw
                  case rel => exact ⟨k + 1, _, _, by omega, by go_num, rfl, rfl, hB3, Lib.hid (by rw [HS.out]; simp [mstepB, *])⟩
                  case measure => simp [intOf]; omega
              · have t0 := trivial
                go_wp2_with fail
                go_roundw
                case rel => exact ⟨k + 1, _, _, by omega, by go_num, rfl, rfl, hB3, Lib.hid (by rw [HS.out]; simp [mstepB, *])⟩
                case measure => simp [intOf]; omega
        · have t1 := trivial
          cases nb
          · have t0 := trivial
            go_wp2_with fail
            go_roundw
            case rel => exact ⟨k + 1, _, _, by omega, by go_num, rfl, rfl, hB3, Lib.hid (by rw [HS.out]; simp [mstepB, *])⟩
            case measure => simp [intOf]; omega
          · rcases Bool.eq_false_or_eq_true (decide (ng ≥ 0)) with q1 | q1
            · rcases Bool.eq_false_or_eq_true (ng != (j : Int)) with q2 | q2
              · have t0 := trivial
                go_wp2_with fail
                go_ret3
                exact ⟨hB3, by rw [HRES.out, mix1_none cs rs (k + 1) (by rw [HS.out]; simp [mstepB, *])]; rfl⟩
              · have t0 := trivial
                go_wp2_with fail
                go_roundw
                case rel => exact ⟨k + 1, _, _, by omega, by go_num, rfl, rfl, hB3, Lib.hid (by rw [HS.out]; simp [mstepB, *])⟩
                case measure => simp [intOf]; omega
            · have t0 := trivial
              go_wp2_with fail
              go_roundw
              case rel => exact ⟨k + 1, _, _, by omega, by go_num, rfl, rfl, hB3, Lib.hid (by rw [HS.out]; simp [mstepB, *])⟩
              case measure => simp [intOf]; omega
    · have hM2 := hM.out
      rw [List.take_of_length_le (by omega)] at hM2
      have HRES2 := Lib.hid (show res = if rs.any (mbad cs (it, ng)) then (0, 0, 83) else (it, ng, 0) by rw [HRES.out, hM2])
      clear HRES hM hM2
      have HRES := Lib.hid HRES2.out
      clear HRES2
      go_wp2_with fail
      go_loopw [4, 5, 55] (fun t4 t5 t55 wr => ∃ k : Nat, k ≤ rs.length ∧ t55 = .int .i64 k ∧ t4 = .int .i64 it ∧ t5 = .int .i64 ng ∧ Below w.heap.size w wr ∧ Hid ((rs.take k).any (mbad cs (it, ng)) = false)) (fun _ _ t55 _ => rs.length - (intOf t55).toNat)
      case atStart => exact ⟨0, by omega, rfl, rfl, rfl, hB, Lib.hid rfl⟩
      case round =>
        clear hB
        obtain ⟨k, hk, rfl, rfl, rfl, hB, hO⟩ := hrel
        by_cases hlt : k < rs.length
        · obtain ⟨ad, rfl, e0, e1, e2, e3⟩ := atRfN HR.out k hlt hlt
          have i1 : (0 : Int) ≤ (k : Int) := by omega
          have i2 : (k : Int) < rs.length := by omega
          have e0 := pw_cell_below hB e0
          have e1 := pw_cell_below hB e1
          have e2 := pw_cell_below hB e2
          have e3 := pw_cell_below hB e3
          obtain ⟨hnm, hin⟩ := HI.out _ (List.getElem_mem hlt)
          have HT2 := Lib.hid (any_take_succ (mbad cs (it, ng)) rs k hlt)
          have HA := Lib.hid (show mbad cs (it, ng) rs[k] = true → rs.any (mbad cs (it, ng)) = true from fun h => List.any_eq_true.2 ⟨_, List.getElem_mem hlt, h⟩)
          generalize rs[k] = r at *
          have hp1 := (HP.out.below hB).below (below_new wr (.cells #[.string r.f0, .int .i64 r.f1, .string r.f2, .int .i64 r.f3] 42))
          obtain ⟨_, _, h3, gm, v2, h4, h5, _, _⟩ := hp1
          have hlk := fun nq => (h5.below (pw_below_drewN (Below.refl _ _) nq)).at_ r.f0 hnm
          obtain ⟨i, hi⟩ := Option.isSome_iff_exists.1 hin
          obtain ⟨hi0, hi1⟩ := vix_bound _ _ _ hi
          obtain ⟨j, rfl⟩ : ∃ j : Nat, i = j := ⟨i.toNat, by omega⟩
          have hj : j < cs.length := by omega
          simp only [hi, Option.getD_some] at hlk
          obtain ⟨ad2, rfl, c0, _, _, _⟩ := atCpN h3 j hj hj
          have HS := Lib.hid (show mbad cs (it, ng) r = badB (iterAt r.f1) cs[j].f0 j (it, ng) r.f1 by
            simp [mbad, cix, hi, negAt, List.getD_eq_getElem?_getD, List.getElem?_eq_getElem hj])
          generalize cs[j].f0 = nb at *
          have p0 := (blk_cell h4 0).trans rfl
          have p1 := (blk_cell h4 1).trans rfl
          have x0 := (blk_cell (blk_new wr (.cells #[.string r.f0, .int .i64 r.f1, .string r.f2, .int .i64 r.f3] 42)) 0).trans rfl
          have y1 := (blk_cell (blk_new wr (.cells #[.string r.f0, .int .i64 r.f1, .string r.f2, .int .i64 r.f3] 42)) 1).trans rfl
          have hj1 : (0 : Int) ≤ (j : Int) := by omega
          have hj2 : (j : Int) < cs.length := by omega
          clear hi hin h3 h5 hi0 hi1
          go_wp2_with fail
          go_quiet (fail)
          have hB2 := below_step hB (pw_below_drewN (below_new wr (.cells #[.string r.f0, .int .i64 r.f1, .string r.f2, .int .i64 r.f3] 42)) nq)
          clear hlk
          go_wp2_with fail
          obtain ⟨b, hb⟩ : ∃ b, b = iterAt r.f1 := ⟨_, rfl⟩
          have hic := fun W => iterating_any r.f0 r.f1 r.f2 r.f3 W
          simp only [← hb] at hic HS
          have p0' := pw_cell_below (pw_below_drewN (Below.refl _ _) nq) p0
          have c0' := pw_cell_below (pw_below_drewN (Below.refl _ _) nq) c0
          have y1' := pw_cell_below (pw_below_drewN (Below.refl _ _) nq) y1
          clear hb p0 p1 x0 c0 y1 e0 e1 e2 e3 h4
          refine (hic _).mono ?_
          rintro e W3 ⟨rfl, hb3⟩
          have hB3 := below_step hB2 hb3
          have p0 := pw_cell_below hb3 p0'
          have c0 := pw_cell_below hb3 c0'
          have y1 := pw_cell_below hb3 y1'
          clear p0' c0' y1' hb3 hB2 hic
          cases b
          · rcases Bool.eq_false_or_eq_true (decide (it ≥ 0)) with d1 | d1
            · have d1' : decide (it < 0) = false := by simp at d1 ⊢; omega
              cases nb
              · rcases Bool.eq_false_or_eq_true (decide ((j : Int) > it)) with d2 | d2
                · have t1 := trivial
                  go_wp2_with fail
                  go_ret3
                  exact ⟨hB3, by rw [HRES.out, HA.out (by rw [HS.out]; simp [badB, *])]; rfl⟩
                · rcases Bool.eq_false_or_eq_true ((j : Int) == it) with d3 | d3
                  · rcases Bool.eq_false_or_eq_true (r.f1 != 4) with d4 | d4
                    · have t1 := trivial
                      go_wp2_with fail
                      go_ret3
                      exact ⟨hB3, by rw [HRES.out, HA.out (by rw [HS.out]; simp [badB, *])]; rfl⟩
                    · have t1 := trivial
                      go_wp2_with fail
                      go_roundw
                      case rel => exact ⟨k + 1, by omega, by go_num, rfl, rfl, hB3, Lib.hid (by rw [HT2.out, hO.out, HS.out]; simp [badB, *])⟩
                      case measure => simp [intOf]; omega
                  · have t1 := trivial
                    go_wp2_with fail
                    go_roundw
                    case rel => exact ⟨k + 1, by omega, by go_num, rfl, rfl, hB3, Lib.hid (by rw [HT2.out, hO.out, HS.out]; simp [badB, *])⟩
                    case measure => simp [intOf]; omega
              · have t1 := trivial
                go_wp2_with fail
                go_ret3
                exact ⟨hB3, by rw [HRES.out, HA.out (by rw [HS.out]; simp [badB, *])]; rfl⟩
            · have d1' : decide (it < 0) = true := by simp at d1 ⊢; omega
              rcases Bool.eq_false_or_eq_true (decide (ng ≥ 0)) with d2 | d2
              · rcases Bool.eq_false_or_eq_true (decide ((j : Int) > ng)) with d3 | d3
                · have t1 := trivial
                  go_wp2_with fail
                  go_ret3
                  exact ⟨hB3, by rw [HRES.out, HA.out (by rw [HS.out]; simp [badB, *])]; rfl⟩
                · have t1 := trivial
                  go_wp2_with fail
                  go_roundw
                  case rel => exact ⟨k + 1, by omega, by go_num, rfl, rfl, hB3, Lib.hid (by rw [HT2.out, hO.out, HS.out]; simp [badB, *])⟩
                  case measure => simp [intOf]; omega
              · have t1 := trivial
                go_wp2_with fail
                go_roundw
                case rel => exact ⟨k + 1, by omega, by go_num, rfl, rfl, hB3, Lib.hid (by rw [HT2.out, hO.out, HS.out]; simp [badB, *])⟩
                case measure => simp [intOf]; omega
          · have t1 := trivial
            go_wp2_with fail
            go_roundw
            case rel => exact ⟨k + 1, by omega, by go_num, rfl, rfl, hB3, Lib.hid (by rw [HT2.out, hO.out, HS.out]; simp [badB, *])⟩
            case measure => simp [intOf]; omega
        · go_wp2_with fail
          go_ret3
          have h := hO.out
          rw [List.take_of_length_le (by omega)] at h
          exact ⟨hB, by rw [HRES.out, h]; rfl⟩
end Go.Proofs.Ytgnifglolbfamaa
