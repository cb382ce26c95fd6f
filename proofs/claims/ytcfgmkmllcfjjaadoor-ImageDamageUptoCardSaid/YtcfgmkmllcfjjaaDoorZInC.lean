import Derived.Test.YtcfgmkmllcfjjaaDoorZInB
set_option linter.unusedVariables false
set_option linter.unusedSimpArgs false
namespace Go.Proofs.YtcfgmkmllcfjjaaDoor
open Go.RowKit Go.Proofs.YtcfgmkmllcfjjaaDoorW.PrintWords Go.Proofs.YtcfgmkmllcfjjaaDoorW.PrintMore PImageForm
theorem RSt.far {w0 W : World} {gr pb p i : Nat} {pl : Option Nat} {s : Rl} (h : RSt w0 gr pb pl s W) (hp : w0.heap.size ≤ p) (h1 : p ≠ gr) (h2 : p ≠ pb) (h3 : some p ≠ pl) (v : Value) : RSt w0 gr pb pl s (W.setCell ⟨p, i, none⟩ v) :=
  ⟨h.rd.far hp h1 v, (Below.heap_setCell _ _ _ _ (fun e => h2 e.symm)).trans h.pbx, fun q hq => (Below.heap_setCell _ _ _ _ (fun e => h3 (by rw [hq]; exact congrArg some e.symm))).trans (h.plx q hq), h.pln⟩
theorem RSt.drew {w0 W : World} {gr pb : Nat} {pl : Option Nat} {s : Rl} (h : RSt w0 gr pb pl s W) : RSt w0 gr pb pl s W.drew := h.below (below_drew (Below.refl _ _))
theorem RSt.drewN {w0 W : World} {gr pb : Nat} {pl : Option Nat} {s : Rl} (h : RSt w0 gr pb pl s W) (n : Nat) : RSt w0 gr pb pl s (W.drewN n) := h.below (pw_below_drewN (Below.refl _ _) n)
theorem Rp.drew {gr : Nat} {pl : Option Nat} {w w1 : World} (h : Rp gr pl w w1) : Rp gr pl w w1.drew := h.trans (of_below (below_drew (Below.refl _ _)))
theorem Rp.drewN {gr : Nat} {pl : Option Nat} {w w1 : World} (h : Rp gr pl w w1) (n : Nat) : Rp gr pl w (w1.drewN n) := h.trans (of_below (pw_below_drewN (Below.refl _ _) n))
structure ASt (w0 w : World) (gr pb : Nat) (pl : Option Nat) (b t : Nat) (cs : Array Value) (s : Rl) (W : World) : Prop where
  st : RSt w0 gr pb pl s W
  an : W.heap[b]? = some (.cells cs t (0, 0))
  rp : Rp gr pl w W
  bl : w.heap.size ≤ b
  lo : w0.heap.size ≤ w.heap.size
  gl : gr < w.heap.size
  bp : b ≠ pb
  pl' : some b ≠ pl
namespace ASt
variable {w0 w W W1 : World} {gr pb b t : Nat} {pl : Option Nat} {cs : Array Value} {s s1 : Rl}
theorem new (h : RSt w0 gr pb pl s w) (o : Array Value) (t : Nat) : ASt w0 w gr pb pl w.heap.size t o s (w.alloc (.cells o t)) :=
  ⟨h.below (below_new w _), blk_new w _, Rp.of_below (below_new w _), Nat.le_refl _, h.rd.2.1.size, h.rd.lt, fun e => by have := blk_lt' h.pbx; omega, fun e => by have := blk_lt' (h.plx _ e.symm); omega⟩
theorem bg (h : ASt w0 w gr pb pl b t cs s W) : b ≠ gr := by have := h.bl; have := h.gl; omega
theorem read {r : Rs} (h : ASt w0 w gr pb pl b t cs s W) (hR : RAt w0 W1 gr r) (hO : Ro gr W W1) : ASt w0 w gr pb pl b t cs (r, s.2) W1 :=
  ⟨h.st.read hR hO, Ro.blk hO h.an h.bg, h.rp.trans (Rp.of_ro hO), h.bl, h.lo, h.gl, h.bp, h.pl'⟩
theorem step (h : ASt w0 w gr pb pl b t cs s W) (hR : RSt w0 gr pb pl s1 W1) (hO : Rp gr pl W W1) : ASt w0 w gr pb pl b t cs s1 W1 :=
  ⟨hR, hO.blk h.an h.bg h.pl', h.rp.trans hO, h.bl, h.lo, h.gl, h.bp, h.pl'⟩
theorem below (h : ASt w0 w gr pb pl b t cs s W) (hB : Below W.heap.size W W1) : ASt w0 w gr pb pl b t cs s W1 := h.step (h.st.below hB) (Rp.of_below hB)
theorem drew (h : ASt w0 w gr pb pl b t cs s W) : ASt w0 w gr pb pl b t cs s W.drew := h.below (below_drew (Below.refl _ _))
theorem set (h : ASt w0 w gr pb pl b t cs s W) (i : Nat) (v : Value) : ASt w0 w gr pb pl b t (cs.setIfInBounds i v) s (W.setCell ⟨b, i, none⟩ v) :=
  ⟨h.st.far (Nat.le_trans h.lo h.bl) h.bg h.bp h.pl' v, blk_set h.an i v, h.rp.setNew h.bl v, h.bl, h.lo, h.gl, h.bp, h.pl'⟩
theorem cell (h : ASt w0 w gr pb pl b t cs s W) (i : Nat) : W.cell? ⟨b, i, none⟩ = cs[i]? := blk_cell h.an i
theorem free (h : ASt w0 w gr pb pl b t cs s W) (i : Nat) : W.frozen? ⟨b, i, none⟩ = false := blk_frozen h.an i
end ASt
def attrR (s : Rl) : S61 × Rl := (⟨(textR s.1).1, (byteR (textR s.1).2).1⟩, ((byteR (textR s.1).2).2, s.2))
set_option maxRecDepth 100000 in
set_option maxHeartbeats 4000000 in
theorem rAttr_any {w0 W : World} {gr pb : Nat} {s : Rl} (hS : RSt w0 gr pb none s W) (hs : Rok s.1) :
    Calls Tryd.prog 44 #[.pointer (some ⟨pb, 0, none⟩)] W (FPost k61 w0 W gr pb none (attrR s)) := by
  have hA := ASt.new hS #[.string ⟨#[]⟩, .int .i64 0] 61
  generalize hW0 : W.alloc (.cells #[.string ⟨#[]⟩, .int .i64 0] 61) = W0 at *
  have HW0 := Lib.hid hW0
  have HT := Lib.hid (fun W' (h : RAt w0 W' gr s.1) => rtext_any h hs)
  have HB := Lib.hid (fun W' (h : RAt w0 W' gr (textR s.1).2) => byte_any h)
  obtain ⟨hb0, hb1⟩ := byte_rng hs.text
  unfold attrR
  generalize textR s.1 = r at *
  obtain ⟨tx, s1⟩ := r
  simp only at hb0 hb1
  generalize byteR s1 = r at *
  obtain ⟨b, s2⟩ := r
  simp only at hb0 hb1
  have hwb : IntKind.i64.wrap b = b := IntWalk.i64_in _ (by omega)
  have HA := Lib.hid hA
  have p0 := hA.st.cellp
  clear hW0 hS hs hA
  go_enter Tryd.func44, Tryd.ntmps44
  go_wp2_with fail
  rw [HW0.out]
  go_wp2_with fail
  go_region_law (first
    | (go_simp; go_at_call 42; refine (HT.out _ (by first | exact HA.out.drew.st.rd | exact HA.out.st.rd)).mono ?_; rintro e5 w5 ⟨rfl, hR5, hO5⟩; have HA5 : Hid (ASt w0 W gr pb none W.heap.size 61 #[.string ⟨#[]⟩, .int .i64 0] (s1, s.2) w5) := Lib.hid (by first | exact HA.out.drew.read hR5 hO5 | exact HA.out.read hR5 hO5); have p5 := HA5.out.st.cellp)
    | (go_simp; go_at_call 45; refine (HB.out _ (by first | exact HA5.out.drew.st.rd | exact HA5.out.st.rd)).mono ?_; rintro e6 w6 ⟨rfl, hR6, hO6⟩; have HA6 : Hid (ASt w0 W gr pb none W.heap.size 61 #[.string ⟨#[]⟩, .int .i64 0] (s2, s.2) w6) := Lib.hid (by first | exact HA5.out.drew.read hR6 hO6 | exact HA5.out.read hR6 hO6); have p6 := HA6.out.st.cellp; have q0 := (HA6.out.cell 0).trans rfl; have q1 := (HA6.out.cell 1).trans rfl; have z0 := HA6.out.free 0; have z1 := HA6.out.free 1))
  all_goals
    go_wp2_with fail
    refine bodyPost_ret (results_cell_row rfl _ _ W.heap.size 61 #[.string tx, .int .i64 b] (0, 0) _ rfl (((HA6.out.set 0 (.string tx)).set 1 (.int .i64 b)).an.trans rfl) Tryd.underlying61 rfl (by kernel_rfl)) rfl ?_
    exact ⟨[.string tx, .int .i64 b], rfl, k61_mkM _ _ _ ⟨tx, b⟩, ((HA6.out.set 0 (.string tx)).set 1 (.int .i64 b)).st, ((HA6.out.set 0 (.string tx)).set 1 (.int .i64 b)).rp⟩
theorem take_len (n : Int) (s : Rs) : (takeR n s).1.length ≤ s.1.length := by
  unfold takeR
  simp only [List.length_drop]
  omega
theorem take_bad {n : Int} {s : Rs} (h : (takeR n s).2 = false) : s.2 = false := by
  unfold takeR at h
  simp only [Bool.or_eq_false_iff] at h
  exact h.1
theorem num_eats {s : Rs} (hs : Rok s) (h : (numR s).2.2 = false) : s.2 = false ∧ (numR s).2.1.length + 1 ≤ s.1.length := by
  obtain ⟨v, e, n, _, h2, _, h4⟩ := intF_any hs.1 hs.2
  have h1 := take_bad h
  simp only [Bool.or_eq_false_iff, Bool.not_eq_false', beq_iff_eq] at h1
  refine ⟨h1.1, ?_⟩
  have h3 := h1.2
  rw [h2] at h3
  have h3 : e = 0 := h3
  rcases h4 with ⟨_, h5, h6⟩ | ⟨h5, _⟩
  · unfold numR takeR
    rw [h2]
    have htk : tk (n : Int) s.1 = n := by unfold tk; rw [if_pos ⟨by omega, by omega⟩]; omega
    simp only [List.length_drop, htk]
    omega
  · exact absurd h3 h5
theorem text_len (s : Rs) : (textR s).2.1.length ≤ s.1.length := Nat.le_trans (take_len _ _) (num_len s)
theorem text_eats {s : Rs} (hs : Rok s) (h : (textR s).2.2 = false) : s.2 = false ∧ (textR s).2.1.length + 1 ≤ s.1.length := by
  have h1 := num_eats hs (take_bad h)
  have h2 := take_len (numR s).1 (numR s).2
  exact ⟨h1.1, by have : (textR s).2.1.length ≤ (numR s).2.1.length := h2; omega⟩
theorem byte_len (s : Rs) : (byteR s).2.1.length ≤ s.1.length := take_len 1 s
theorem byte_bad {s : Rs} (h : (byteR s).2.2 = false) : s.2 = false := take_bad h
theorem attrR_ok : OneOk attrR := by
  intro s hs
  refine ⟨hs.text.byte, Nat.le_trans (byte_len _) (text_len _), fun _ h => ?_⟩
  have h1 := text_eats hs (byte_bad h)
  have h2 := byte_len (textR s.1).2
  have : (attrR s).2.1.1.length = (byteR (textR s.1).2).2.1.length := rfl
  omega
theorem getF_ok {α : Type} {one : Rl → α × Rl} (h : OneOk one) : ∀ (n : Nat) (s : Rl), Rok s.1 → Rok (getF one n s).2.1 ∧ (getF one n s).2.1.1.length ≤ s.1.1.length ∧ ((getF one n s).2.1.2 = false → s.1.2 = false)
  | 0, s, hs => ⟨hs, Nat.le_refl _, fun h => h⟩
  | n + 1, s, hs => by
    rw [getF]
    by_cases hb : s.1.2 = true
    · rw [if_pos hb]
      exact ⟨hs, Nat.le_refl _, fun h => h⟩
    · rw [if_neg hb]
      obtain ⟨h1, h2, _⟩ := h s hs
      obtain ⟨k1, k2, k3⟩ := getF_ok h n (one s).2 h1
      exact ⟨k1, Nat.le_trans k2 h2, fun _ => by simpa using hb⟩
theorem getR_ok {α : Type} {one : Rl → α × Rl} (h : OneOk one) (s : Rl) (hs : Rok s.1) : Rok (getR one s).2.1 ∧ (getR one s).2.1.1.length ≤ s.1.1.length ∧ ((getR one s).2.1.2 = false → s.1.2 = false) := by
  unfold getR
  by_cases hn : (numR s.1).1 < 0
  · rw [if_pos hn]
    exact ⟨hs.num.mark true, num_len s.1, fun h => by cases h⟩
  · rw [if_neg hn]
    obtain ⟨k1, k2, k3⟩ := getF_ok h (numR s.1).1.toNat ((numR s.1).2, s.2) hs.num
    exact ⟨k1, Nat.le_trans k2 (num_len s.1), fun h => (num_eats hs (k3 h)).1⟩
def typeR (s : Rl) : S64 × Rl := (⟨(textR s.1).1, (getR attrR ((textR s.1).2, s.2)).1⟩, (getR attrR ((textR s.1).2, s.2)).2)
theorem typeR_ok : OneOk typeR := by
  intro s hs
  obtain ⟨k1, k2, k3⟩ := getR_ok attrR_ok ((textR s.1).2, s.2) hs.text
  refine ⟨k1, Nat.le_trans k2 (text_len _), fun _ h => ?_⟩
  have h1 := text_eats hs (k3 h)
  have : (typeR s).2.1.1.length = (getR attrR ((textR s.1).2, s.2)).2.1.1.length := rfl
  have k2 : (getR attrR ((textR s.1).2, s.2)).2.1.1.length ≤ (textR s.1).2.1.length := k2
  omega
set_option maxRecDepth 100000 in
set_option maxHeartbeats 4000000 in
theorem rType_any {w0 W : World} {gr pb : Nat} {s : Rl} (hS : RSt w0 gr pb none s W) (hs : Rok s.1) (hlen : s.1.1.length ≤ 1000000000000) :
    Calls Tryd.prog 41 #[.pointer (some ⟨pb, 0, none⟩)] W (FPost k64 w0 W gr pb none (typeR s)) := by
  have hA := ASt.new hS #[.string ⟨#[]⟩, .slice none 0 0] 64
  generalize hW0 : W.alloc (.cells #[.string ⟨#[]⟩, .slice none 0 0] 64) = W0 at *
  have HW0 := Lib.hid hW0
  have HT := Lib.hid (fun W' (h : RAt w0 W' gr s.1) => rtext_any h hs)
  have HB := Lib.hid (fun W' (h : RSt w0 gr pb none ((textR s.1).2, s.2) W') => getAttrs_any attrR gr pb h hs.text (by have := text_len s.1; show (textR s.1).2.1.length ≤ _; omega) attrR_ok (fun s' W'' h1 _ h2 => rAttr_any h2 h1))
  unfold typeR
  generalize textR s.1 = r at *
  obtain ⟨tx, s1⟩ := r
  simp only
  generalize getR attrR (s1, s.2) = r at *
  obtain ⟨xs, s2⟩ := r
  have HA := Lib.hid hA
  have p0 := hA.st.cellp
  have hmf : ∀ fn first cap w, (Instr.makeFunc fn first cap).run Tryd.prog w = .ok (.func fn first cap) w := fun _ _ _ _ => rfl
  clear hW0 hS hs hA
  go_enter Tryd.func41, Tryd.ntmps41
  go_wp2_with fail
  rw [HW0.out]
  go_wp2_with fail
  go_region_law (first
    | (go_simp; go_at_call 42; refine (HT.out _ (by first | exact HA.out.drew.st.rd | exact HA.out.st.rd)).mono ?_; rintro e5 w5 ⟨rfl, hR5, hO5⟩; have HA5 : Hid (ASt w0 W gr pb none W.heap.size 64 #[.string ⟨#[]⟩, .slice none 0 0] (s1, s.2) w5) := Lib.hid (by first | exact HA.out.drew.read hR5 hO5 | exact HA.out.read hR5 hO5); have p5 := HA5.out.st.cellp)
    | (go_simp; go_at_call 43; refine (HB.out _ (by first | exact HA5.out.drew.st | exact HA5.out.st)).mono ?_; rintro e6 w6 ⟨v6, rfl, hv6, hR6, hO6⟩; obtain ⟨A6, c6, rfl⟩ := Kd.R_slice hv6; have HA6 : Hid (ASt w0 W gr pb none W.heap.size 64 #[.string ⟨#[]⟩, .slice none 0 0] s2 w6) := Lib.hid (by first | exact HA5.out.drew.step hR6 hO6 | exact HA5.out.step hR6 hO6); have HV6 : Hid (k61.R 61 w6 W.heap.size (fun _ => True) (.slice A6 xs.length c6) xs) := Lib.hid (Kd.R_lower hv6 (by first | exact HA5.out.drew.rp.size | exact HA5.out.rp.size)); have p6 := HA6.out.st.cellp; have q0 := (HA6.out.cell 0).trans rfl; have q1 := (HA6.out.cell 1).trans rfl; have z0 := HA6.out.free 0; have z1 := HA6.out.free 1))
  all_goals
    go_wp2_with fail
    refine bodyPost_ret (results_cell_row rfl _ _ W.heap.size 64 #[.string tx, .slice A6 xs.length c6] (0, 0) _ rfl (((HA6.out.set 0 (.string tx)).set 1 (.slice A6 xs.length c6)).an.trans rfl) Tryd.underlying64 rfl (by kernel_rfl)) rfl ?_
    have hq : ∀ q, q ∈ 61 :: k61.E → q ≠ 64 := by intro q hq; have hE : k61.E = [] := rfl; rw [hE, List.mem_singleton] at hq; subst hq; decide
    exact ⟨[.string tx, .slice A6 xs.length c6], rfl, k64_mkM _ _ _ ⟨tx, xs⟩ (Kd.R_set (Kd.R_set HV6.out HA6.out.an hq 0 _) (HA6.out.set 0 (.string tx)).an hq 1 _), ((HA6.out.set 0 (.string tx)).set 1 (.slice A6 xs.length c6)).st, ((HA6.out.set 0 (.string tx)).set 1 (.slice A6 xs.length c6)).rp⟩
end Go.Proofs.YtcfgmkmllcfjjaaDoor
