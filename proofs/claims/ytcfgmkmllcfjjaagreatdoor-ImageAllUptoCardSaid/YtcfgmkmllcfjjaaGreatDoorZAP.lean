import Derived.Test.YtcfgmkmllcfjjaaGreatDoorZAO
set_option linter.unusedVariables false
set_option linter.unusedSimpArgs false
namespace Go.Proofs.YtcfgmkmllcfjjaaGreatDoor
open Go.RowKit Go.Proofs.YtcfgmkmllcfjjaaGreatDoorW.PrintWords Go.Proofs.YtcfgmkmllcfjjaaGreatDoorW.PrintMore PImageAll
theorem RSt.far {w0 W : World} {gr pb p i : Nat} {pl : Option Nat} {s : Rl} (h : RSt w0 gr pb pl s W) (hp : w0.heap.size ≤ p) (h1 : p ≠ gr) (h2 : p ≠ pb) (h3 : some p ≠ pl) (v : Value) : RSt w0 gr pb pl s (W.setCell ⟨p, i, none⟩ v) :=
  ⟨h.rd.far hp h1 v, (Below.heap_setCell _ _ _ _ (fun e => h2 e.symm)).trans h.pbx, fun q hq => (Below.heap_setCell _ _ _ _ (fun e => h3 (by rw [hq]; exact congrArg some e.symm))).trans (h.plx q hq), h.pln⟩
theorem RSt.drew {w0 W : World} {gr pb : Nat} {pl : Option Nat} {s : Rl} (h : RSt w0 gr pb pl s W) : RSt w0 gr pb pl s W.drew := h.below (below_drew (Below.refl _ _))
theorem RSt.drewN {w0 W : World} {gr pb : Nat} {pl : Option Nat} {s : Rl} (h : RSt w0 gr pb pl s W) (n : Nat) : RSt w0 gr pb pl s (W.drewN n) := h.below (pw_below_drewN (Below.refl _ _) n)
theorem Rp.drew {gr : Nat} {pl : Option Nat} {w w1 : World} (h : Rp gr pl w w1) : Rp gr pl w w1.drew := h.trans (of_below (below_drew (Below.refl _ _)))
theorem Rp.drewN {gr : Nat} {pl : Option Nat} {w w1 : World} (h : Rp gr pl w w1) (n : Nat) : Rp gr pl w (w1.drewN n) := h.trans (of_below (pw_below_drewN (Below.refl _ _) n))
structure ASt (w0 w : World) (gr pb : Nat) (pl : Option Nat) (b t : Nat) (cs : Array Value) (s : Rl) (W : World) : Prop where
  st : RSt w0 gr pb pl s W
  an : W.heap[b]? = some (.cells cs t (0, 0))
  rp : Rp gr pl w W
  bl : w.heap.size ≤ b
  lo : w0.heap.size ≤ w.heap.size
  gl : gr < w.heap.size
  bp : b ≠ pb
  pl' : some b ≠ pl
namespace ASt
variable {w0 w W W1 : World} {gr pb b t : Nat} {pl : Option Nat} {cs : Array Value} {s s1 : Rl}
theorem new (h : RSt w0 gr pb pl s w) (o : Array Value) (t : Nat) : ASt w0 w gr pb pl w.heap.size t o s (w.alloc (.cells o t)) :=
  ⟨h.below (below_new w _), blk_new w _, Rp.of_below (below_new w _), Nat.le_refl _, h.rd.2.1.size, h.rd.lt, fun e => by have := blk_lt' h.pbx; omega, fun e => by have := blk_lt' (h.plx _ e.symm); omega⟩
theorem bg (h : ASt w0 w gr pb pl b t cs s W) : b ≠ gr := by have := h.bl; have := h.gl; omega
theorem read {r : Rs} (h : ASt w0 w gr pb pl b t cs s W) (hR : RAt w0 W1 gr r) (hO : Ro gr W W1) : ASt w0 w gr pb pl b t cs (r, s.2) W1 :=
  ⟨h.st.read hR hO, Ro.blk hO h.an h.bg, h.rp.trans (Rp.of_ro hO), h.bl, h.lo, h.gl, h.bp, h.pl'⟩
theorem step (h : ASt w0 w gr pb pl b t cs s W) (hR : RSt w0 gr pb pl s1 W1) (hO : Rp gr pl W W1) : ASt w0 w gr pb pl b t cs s1 W1 :=
  ⟨hR, hO.blk h.an h.bg h.pl', h.rp.trans hO, h.bl, h.lo, h.gl, h.bp, h.pl'⟩
theorem below (h : ASt w0 w gr pb pl b t cs s W) (hB : Below W.heap.size W W1) : ASt w0 w gr pb pl b t cs s W1 := h.step (h.st.below hB) (Rp.of_below hB)
theorem drew (h : ASt w0 w gr pb pl b t cs s W) : ASt w0 w gr pb pl b t cs s W.drew := h.below (below_drew (Below.refl _ _))
theorem set (h : ASt w0 w gr pb pl b t cs s W) (i : Nat) (v : Value) : ASt w0 w gr pb pl b t (cs.setIfInBounds i v) s (W.setCell ⟨b, i, none⟩ v) :=
  ⟨h.st.far (Nat.le_trans h.lo h.bl) h.bg h.bp h.pl' v, blk_set h.an i v, h.rp.setNew h.bl v, h.bl, h.lo, h.gl, h.bp, h.pl'⟩
theorem cell (h : ASt w0 w gr pb pl b t cs s W) (i : Nat) : W.cell? ⟨b, i, none⟩ = cs[i]? := blk_cell h.an i
theorem free (h : ASt w0 w gr pb pl b t cs s W) (i : Nat) : W.frozen? ⟨b, i, none⟩ = false := blk_frozen h.an i
end ASt
def attrR (s : Rl) : S58 × Rl := (⟨(textR s.1).1, (byteR (textR s.1).2).1⟩, ((byteR (textR s.1).2).2, s.2))
set_option maxRecDepth 100000 in
set_option maxHeartbeats 4000000 in
theorem rAttr_any {w0 W : World} {gr pb : Nat} {s : Rl} (hS : RSt w0 gr pb none s W) (hs : Rok s.1) :
    Calls Tryz.prog 80 #[.pointer (some ⟨pb, 0, none⟩)] W (FPost k58 w0 W gr pb none (attrR s)) := by
  have hA := ASt.new hS #[.string ⟨#[]⟩, .int .i64 0] 58
  generalize hW0 : W.alloc (.cells #[.string ⟨#[]⟩, .int .i64 0] 58) = W0 at *
  have HW0 := Lib.hid hW0
  have HT := Lib.hid (fun W' (h : RAt w0 W' gr s.1) => rtext_any h hs)
  have HB := Lib.hid (fun W' (h : RAt w0 W' gr (textR s.1).2) => byte_any h)
  obtain ⟨hb0, hb1⟩ := byte_rng hs.text
  unfold attrR
  generalize textR s.1 = r at *
  obtain ⟨tx, s1⟩ := r
  simp only at hb0 hb1
  generalize byteR s1 = r at *
  obtain ⟨b, s2⟩ := r
  simp only at hb0 hb1
  have hwb : IntKind.i64.wrap b = b := IntWalk.i64_in _ (by omega)
  have HA := Lib.hid hA
  have p0 := hA.st.cellp
  clear hW0 hS hs hA
  go_enter Tryz.func80, Tryz.ntmps80
  go_wp2_with fail
  rw [HW0.out]
  go_wp2_with fail
  go_region_law (first
    | (go_simp; go_at_call 78; refine (HT.out _ (by first | exact HA.out.drew.st.rd | exact HA.out.st.rd)).mono ?_; rintro e5 w5 ⟨rfl, hR5, hO5⟩; have HA5 : Hid (ASt w0 W gr pb none W.heap.size 58 #[.string ⟨#[]⟩, .int .i64 0] (s1, s.2) w5) := Lib.hid (by first | exact HA.out.drew.read hR5 hO5 | exact HA.out.read hR5 hO5); have p5 := HA5.out.st.cellp)
    | (go_simp; go_at_call 81; refine (HB.out _ (by first | exact HA5.out.drew.st.rd | exact HA5.out.st.rd)).mono ?_; rintro e6 w6 ⟨rfl, hR6, hO6⟩; have HA6 : Hid (ASt w0 W gr pb none W.heap.size 58 #[.string ⟨#[]⟩, .int .i64 0] (s2, s.2) w6) := Lib.hid (by first | exact HA5.out.drew.read hR6 hO6 | exact HA5.out.read hR6 hO6); have p6 := HA6.out.st.cellp; have q0 := (HA6.out.cell 0).trans rfl; have q1 := (HA6.out.cell 1).trans rfl; have z0 := HA6.out.free 0; have z1 := HA6.out.free 1))
  all_goals
    go_wp2_with fail
    refine bodyPost_ret (results_cell_row rfl _ _ W.heap.size 58 #[.string tx, .int .i64 b] (0, 0) _ rfl (((HA6.out.set 0 (.string tx)).set 1 (.int .i64 b)).an.trans rfl) Tryz.underlying58 rfl (by kernel_rfl)) rfl ?_
    exact ⟨[.string tx, .int .i64 b], rfl, k58_mkM _ _ _ ⟨tx, b⟩, ((HA6.out.set 0 (.string tx)).set 1 (.int .i64 b)).st, ((HA6.out.set 0 (.string tx)).set 1 (.int .i64 b)).rp⟩
theorem take_len (n : Int) (s : Rs) : (takeR n s).1.length ≤ s.1.length := by
  unfold takeR
  simp only [List.length_drop]
  omega
theorem take_bad {n : Int} {s : Rs} (h : (takeR n s).2 = false) : s.2 = false := by
  unfold takeR at h
  simp only [Bool.or_eq_false_iff] at h
  exact h.1
theorem num_eats {s : Rs} (hs : Rok s) (h : (numR s).2.2 = false) : s.2 = false ∧ (numR s).2.1.length + 1 ≤ s.1.length := by
  obtain ⟨v, e, n, _, h2, _, h4⟩ := intF_any hs.1 hs.2
  have h1 := take_bad h
  simp only [Bool.or_eq_false_iff, Bool.not_eq_false', beq_iff_eq] at h1
  refine ⟨h1.1, ?_⟩
  have h3 := h1.2
  rw [h2] at h3
  have h3 : e = 0 := h3
  rcases h4 with ⟨_, h5, h6⟩ | ⟨h5, _⟩
  · unfold numR takeR
    rw [h2]
    have htk : tk (n : Int) s.1 = n := by unfold tk; rw [if_pos ⟨by omega, by omega⟩]; omega
    simp only [List.length_drop, htk]
    omega
  · exact absurd h3 h5
theorem text_len (s : Rs) : (textR s).2.1.length ≤ s.1.length := Nat.le_trans (take_len _ _) (num_len s)
theorem text_eats {s : Rs} (hs : Rok s) (h : (textR s).2.2 = false) : s.2 = false ∧ (textR s).2.1.length + 1 ≤ s.1.length := by
  have h1 := num_eats hs (take_bad h)
  have h2 := take_len (numR s).1 (numR s).2
  exact ⟨h1.1, by have : (textR s).2.1.length ≤ (numR s).2.1.length := h2; omega⟩
theorem byte_len (s : Rs) : (byteR s).2.1.length ≤ s.1.length := take_len 1 s
theorem byte_bad {s : Rs} (h : (byteR s).2.2 = false) : s.2 = false := take_bad h
theorem attrR_ok : OneOk attrR := by
  intro s hs
  refine ⟨hs.text.byte, Nat.le_trans (byte_len _) (text_len _), fun _ h => ?_⟩
  have h1 := text_eats hs (byte_bad h)
  have h2 := byte_len (textR s.1).2
  have : (attrR s).2.1.1.length = (byteR (textR s.1).2).2.1.length := rfl
  omega
theorem getF_ok {α : Type} {one : Rl → α × Rl} (h : OneOk one) : ∀ (n : Nat) (s : Rl), Rok s.1 → Rok (getF one n s).2.1 ∧ (getF one n s).2.1.1.length ≤ s.1.1.length ∧ ((getF one n s).2.1.2 = false → s.1.2 = false)
  | 0, s, hs => ⟨hs, Nat.le_refl _, fun h => h⟩
  | n + 1, s, hs => by
    rw [getF]
    by_cases hb : s.1.2 = true
    · rw [if_pos hb]
      exact ⟨hs, Nat.le_refl _, fun h => h⟩
    · rw [if_neg hb]
      obtain ⟨h1, h2, _⟩ := h s hs
      obtain ⟨k1, k2, k3⟩ := getF_ok h n (one s).2 h1
      exact ⟨k1, Nat.le_trans k2 h2, fun _ => by simpa using hb⟩
theorem getR_ok {α : Type} {one : Rl → α × Rl} (h : OneOk one) (s : Rl) (hs : Rok s.1) : Rok (getR one s).2.1 ∧ (getR one s).2.1.1.length ≤ s.1.1.length ∧ ((getR one s).2.1.2 = false → s.1.2 = false) := by
  unfold getR
  by_cases hn : (numR s.1).1 < 0
  · rw [if_pos hn]
    exact ⟨hs.num.mark true, num_len s.1, fun h => by cases h⟩
  · rw [if_neg hn]
    obtain ⟨k1, k2, k3⟩ := getF_ok h (numR s.1).1.toNat ((numR s.1).2, s.2) hs.num
    exact ⟨k1, Nat.le_trans k2 (num_len s.1), fun h => (num_eats hs (k3 h)).1⟩
def typeR (s : Rl) : S56 × Rl := (⟨(textR s.1).1, (getR attrR ((textR s.1).2, s.2)).1⟩, (getR attrR ((textR s.1).2, s.2)).2)
theorem typeR_ok : OneOk typeR := by
  intro s hs
  obtain ⟨k1, k2, k3⟩ := getR_ok attrR_ok ((textR s.1).2, s.2) hs.text
  refine ⟨k1, Nat.le_trans k2 (text_len _), fun _ h => ?_⟩
  have h1 := text_eats hs (k3 h)
  have : (typeR s).2.1.1.length = (getR attrR ((textR s.1).2, s.2)).2.1.1.length := rfl
  have k2 : (getR attrR ((textR s.1).2, s.2)).2.1.1.length ≤ (textR s.1).2.1.length := k2
  omega
set_option maxRecDepth 100000 in
set_option maxHeartbeats 4000000 in
theorem rType_any {w0 W : World} {gr pb : Nat} {s : Rl} (hS : RSt w0 gr pb none s W) (hs : Rok s.1) (hlen : s.1.1.length ≤ 1000000000000) :
    Calls Tryz.prog 77 #[.pointer (some ⟨pb, 0, none⟩)] W (FPost k56 w0 W gr pb none (typeR s)) := by
  have hA := ASt.new hS #[.string ⟨#[]⟩, .slice none 0 0] 56
  generalize hW0 : W.alloc (.cells #[.string ⟨#[]⟩, .slice none 0 0] 56) = W0 at *
  have HW0 := Lib.hid hW0
  have HT := Lib.hid (fun W' (h : RAt w0 W' gr s.1) => rtext_any h hs)
  have HB := Lib.hid (fun W' (h : RSt w0 gr pb none ((textR s.1).2, s.2) W') => getAttrs_any attrR gr pb h hs.text (by have := text_len s.1; show (textR s.1).2.1.length ≤ _; omega) attrR_ok (fun s' W'' h1 _ h2 => rAttr_any h2 h1))
  unfold typeR
  generalize textR s.1 = r at *
  obtain ⟨tx, s1⟩ := r
  simp only
  generalize getR attrR (s1, s.2) = r at *
  obtain ⟨xs, s2⟩ := r
  have HA := Lib.hid hA
  have p0 := hA.st.cellp
  have hmf : ∀ fn first cap w, (Instr.makeFunc fn first cap).run Tryz.prog w = .ok (.func fn first cap) w := fun _ _ _ _ => rfl
  clear hW0 hS hs hA
  go_enter Tryz.func77, Tryz.ntmps77
  go_wp2_with fail
  rw [HW0.out]
  go_wp2_with fail
  go_region_law (first
    | (go_simp; go_at_call 78; refine (HT.out _ (by first | exact HA.out.drew.st.rd | exact HA.out.st.rd)).mono ?_; rintro e5 w5 ⟨rfl, hR5, hO5⟩; have HA5 : Hid (ASt w0 W gr pb none W.heap.size 56 #[.string ⟨#[]⟩, .slice none 0 0] (s1, s.2) w5) := Lib.hid (by first | exact HA.out.drew.read hR5 hO5 | exact HA.out.read hR5 hO5); have p5 := HA5.out.st.cellp)
    | (go_simp; go_at_call 79; refine (HB.out _ (by first | exact HA5.out.drew.st | exact HA5.out.st)).mono ?_; rintro e6 w6 ⟨v6, rfl, hv6, hR6, hO6⟩; obtain ⟨A6, c6, rfl⟩ := Kd.R_slice hv6; have HA6 : Hid (ASt w0 W gr pb none W.heap.size 56 #[.string ⟨#[]⟩, .slice none 0 0] s2 w6) := Lib.hid (by first | exact HA5.out.drew.step hR6 hO6 | exact HA5.out.step hR6 hO6); have HV6 : Hid (k58.R 58 w6 W.heap.size (fun _ => True) (.slice A6 xs.length c6) xs) := Lib.hid (Kd.R_lower hv6 (by first | exact HA5.out.drew.rp.size | exact HA5.out.rp.size)); have p6 := HA6.out.st.cellp; have q0 := (HA6.out.cell 0).trans rfl; have q1 := (HA6.out.cell 1).trans rfl; have z0 := HA6.out.free 0; have z1 := HA6.out.free 1))
  all_goals
    go_wp2_with fail
    refine bodyPost_ret (results_cell_row rfl _ _ W.heap.size 56 #[.string tx, .slice A6 xs.length c6] (0, 0) _ rfl (((HA6.out.set 0 (.string tx)).set 1 (.slice A6 xs.length c6)).an.trans rfl) Tryz.underlying56 rfl (by kernel_rfl)) rfl ?_
    have hq : ∀ q, q ∈ 58 :: k58.E → q ≠ 56 := by intro q hq; have hE : k58.E = [] := rfl; rw [hE, List.mem_singleton] at hq; subst hq; decide
    exact ⟨[.string tx, .slice A6 xs.length c6], rfl, k56_mkM _ _ _ ⟨tx, xs⟩ (Kd.R_set (Kd.R_set HV6.out HA6.out.an hq 0 _) (HA6.out.set 0 (.string tx)).an hq 1 _), ((HA6.out.set 0 (.string tx)).set 1 (.slice A6 xs.length c6)).st, ((HA6.out.set 0 (.string tx)).set 1 (.slice A6 xs.length c6)).rp⟩
end Go.Proofs.YtcfgmkmllcfjjaaGreatDoor
set_option linter.unusedVariables false
set_option linter.unusedSimpArgs false
namespace Go.Proofs.YtcfgmkmllcfjjaaGreatDoor
open Go.RowKit Go.Proofs.YtcfgmkmllcfjjaaGreatDoorW.PrintWords Go.Proofs.YtcfgmkmllcfjjaaGreatDoorW.PrintMore PImageAll
namespace ASt
variable {w0 w W W1 : World} {gr pb b b' t t' : Nat} {pl : Option Nat} {cs cs' : Array Value} {s s1 : Rl}
theorem more (h : ASt w0 w gr pb pl b t cs s W) (o : Array Value) (t' : Nat) : ASt w0 w gr pb pl W.heap.size t' o s (W.alloc (.cells o t')) :=
  ⟨h.st.below (below_new W _), blk_new W _, h.rp.trans (Rp.of_below (below_new W _)), h.rp.size, h.lo, h.gl, fun e => by have := blk_lt' h.st.pbx; omega, fun e => by have := blk_lt' (h.st.plx _ e.symm); omega⟩
theorem keep (h : ASt w0 w gr pb pl b t cs s W) (o : Array Value) (t' : Nat) : ASt w0 w gr pb pl b t cs s (W.alloc (.cells o t')) := h.below (below_new W _)
theorem lt (h : ASt w0 w gr pb pl b t cs s W) : b < W.heap.size := blk_lt' h.an
theorem other (h : ASt w0 w gr pb pl b t cs s W) (h' : ASt w0 w gr pb pl b' t' cs' s W) (hn : b ≠ b') (i : Nat) (v : Value) : ASt w0 w gr pb pl b t cs s (W.setCell ⟨b', i, none⟩ v) :=
  ⟨h.st.far (Nat.le_trans h'.lo h'.bl) h'.bg h'.bp h'.pl' v, (Below.heap_setCell _ _ _ _ hn).trans h.an, h.rp.setNew h'.bl v, h.bl, h.lo, h.gl, h.bp, h.pl'⟩
theorem box4 {x y z u x' y' z' u' : Value} (hA : ASt w0 w gr pb pl b t cs s W) (hZ : ASt w0 w gr pb pl b' t' #[x', y', z', u'] s W) (hn : b ≠ b') :
    ASt w0 w gr pb pl b t cs s ((((W.setCell ⟨b', 0, none⟩ x).setCell ⟨b', 1, none⟩ y).setCell ⟨b', 2, none⟩ z).setCell ⟨b', 3, none⟩ u) ∧ ASt w0 w gr pb pl b' t' #[x, y, z, u] s ((((W.setCell ⟨b', 0, none⟩ x).setCell ⟨b', 1, none⟩ y).setCell ⟨b', 2, none⟩ z).setCell ⟨b', 3, none⟩ u) :=
  ⟨(((hA.other hZ hn 0 x).other (hZ.set 0 x) hn 1 y).other ((hZ.set 0 x).set 1 y) hn 2 z).other (((hZ.set 0 x).set 1 y).set 2 z) hn 3 u, (((hZ.set 0 x).set 1 y).set 2 z).set 3 u⟩
end ASt
def savedR (s : Rl) : S60 × Rl :=
  (⟨(textR s.1).1, (textR (textR s.1).2).1, (numR (textR (textR s.1).2).2).1, (truthR (numR (textR (textR s.1).2).2).2).1⟩, ((truthR (numR (textR (textR s.1).2).2).2).2, s.2))
theorem savedR_ok : OneOk savedR := by
  intro s hs
  have k1 := hs.text
  have k2 := k1.text
  have k3 := k2.num
  refine ⟨k3.truth, ?_, fun _ h => ?_⟩
  · exact Nat.le_trans (byte_len _) (Nat.le_trans (num_len _) (Nat.le_trans (text_len _) (text_len _)))
  · have h1 : (numR (textR (textR s.1).2).2).2.2 = false := byte_bad h
    have h2 := num_eats k2 h1
    have h3 := text_eats k1 h2.1
    have h4 := text_eats hs h3.1
    have h5 : (savedR s).2.1.1.length ≤ (numR (textR (textR s.1).2).2).2.1.length := byte_len _
    omega
set_option maxRecDepth 100000 in
set_option maxHeartbeats 4000000 in
theorem rSaved_any {w0 W : World} {gr pb : Nat} {s : Rl} (hS : RSt w0 gr pb none s W) (hs : Rok s.1) :
    Calls Tryz.prog 86 #[.pointer (some ⟨pb, 0, none⟩)] W (FPost k60 w0 W gr pb none (savedR s)) := by
  have hA := ASt.new hS #[.string ⟨#[]⟩, .string ⟨#[]⟩, .int .i64 0, .bool false] 60
  generalize hW0 : W.alloc (.cells #[.string ⟨#[]⟩, .string ⟨#[]⟩, .int .i64 0, .bool false] 60) = W0 at *
  have HW0 := Lib.hid hW0
  have HT := Lib.hid (fun W' (h : RAt w0 W' gr s.1) => rtext_any h hs)
  have HT2 := Lib.hid (fun W' (h : RAt w0 W' gr (textR s.1).2) => rtext_any h hs.text)
  have HN := Lib.hid (fun W' (h : RAt w0 W' gr (textR (textR s.1).2).2) => number_any h hs.text.text)
  have HB := Lib.hid (fun W' (h : RAt w0 W' gr (numR (textR (textR s.1).2).2).2) => rtruth_any h)
  unfold savedR
  generalize textR s.1 = r at *
  obtain ⟨tx, s1⟩ := r
  simp only at HT2 HN HB ⊢
  generalize textR s1 = r at *
  obtain ⟨ty, s2⟩ := r
  simp only at HN HB ⊢
  generalize numR s2 = r at *
  obtain ⟨n, s3⟩ := r
  simp only at HB ⊢
  generalize truthR s3 = r at *
  obtain ⟨tr, s4⟩ := r
  simp only
  have HA := Lib.hid hA
  have p0 := hA.st.cellp
  have p0a := (hA.keep #[.string ⟨#[]⟩, .string ⟨#[]⟩, .int .i64 0, .bool false] 60).drew.st.cellp
  clear hW0 hS hs hA
  go_enter Tryz.func86, Tryz.ntmps86
  go_wp2_with fail
  rw [HW0.out]
  go_upto_region 1 with fail
  go_cut [2] from 3 to 7 (fun t2 wx => ∃ b3, t2 = .pointer (some ⟨b3, 0, none⟩) ∧ W.heap.size ≠ b3 ∧ Hid (ASt w0 W gr pb none W.heap.size 60 #[.string ⟨#[]⟩, .string ⟨#[]⟩, .int .i64 0, .bool false] (s2, s.2) wx) ∧ Hid (ASt w0 W gr pb none b3 60 #[.string tx, .string ty, .int .i64 0, .bool false] (s2, s.2) wx))
  case first =>
    go_region_law (first
      | (go_simp; go_at_call 78; (with_reducible refine (HT.out _ HA.out.drew.st.rd).mono ?_); rintro e5 w5 ⟨rfl, hR5, hO5⟩; have HA5 : Hid (ASt w0 W gr pb none W.heap.size 60 #[.string ⟨#[]⟩, .string ⟨#[]⟩, .int .i64 0, .bool false] (s1, s.2) w5) := Lib.hid (HA.out.drew.read hR5 hO5); have p5 := HA5.out.st.cellp; have p5a := (HA5.out.keep #[.string ⟨#[]⟩, .string ⟨#[]⟩, .int .i64 0, .bool false] 60).st.cellp)
      | (go_simp; go_at_call 78; (with_reducible refine (HT.out _ (HA.out.keep _ _).drew.st.rd).mono ?_); rintro e5 w5 ⟨rfl, hR5, hO5⟩; have HA5 : Hid (ASt w0 W gr pb none W.heap.size 60 #[.string ⟨#[]⟩, .string ⟨#[]⟩, .int .i64 0, .bool false] (s1, s.2) w5) := Lib.hid ((HA.out.keep _ _).drew.read hR5 hO5); have HZ5 : Hid (ASt w0 W gr pb none W0.heap.size 60 #[.string ⟨#[]⟩, .string ⟨#[]⟩, .int .i64 0, .bool false] (s1, s.2) w5) := Lib.hid ((HA.out.more _ _).drew.read hR5 hO5); have p5 := HA5.out.st.cellp; have p5a := (HA5.out.keep #[.string ⟨#[]⟩, .string ⟨#[]⟩, .int .i64 0, .bool false] 60).st.cellp)
      | (go_simp; go_at_call 78; (with_reducible refine (HT2.out _ HZ5.out.st.rd).mono ?_); rintro e6 w6 ⟨rfl, hR6, hO6⟩; have HA6 : Hid (ASt w0 W gr pb none W.heap.size 60 #[.string ⟨#[]⟩, .string ⟨#[]⟩, .int .i64 0, .bool false] (s2, s.2) w6) := Lib.hid (HA5.out.read hR6 hO6); have HZ6 : Hid (ASt w0 W gr pb none W0.heap.size 60 #[.string ⟨#[]⟩, .string ⟨#[]⟩, .int .i64 0, .bool false] (s2, s.2) w6) := Lib.hid (HZ5.out.read hR6 hO6); have p6 := HA6.out.st.cellp; have q0 := (HZ6.out.cell 0).trans rfl; have q1 := (HZ6.out.cell 1).trans rfl; have q2 := (HZ6.out.cell 2).trans rfl; have q3 := (HZ6.out.cell 3).trans rfl; have z0 := HZ6.out.free 0; have z1 := HZ6.out.free 1; have z2 := HZ6.out.free 2; have z3 := HZ6.out.free 3)
      | (go_simp; go_at_call 78; (with_reducible refine (HT2.out _ HA5.out.st.rd).mono ?_); rintro e6 w6 ⟨rfl, hR6, hO6⟩; have HA6 : Hid (ASt w0 W gr pb none W.heap.size 60 #[.string ⟨#[]⟩, .string ⟨#[]⟩, .int .i64 0, .bool false] (s2, s.2) w6) := Lib.hid (HA5.out.read hR6 hO6); have p6 := HA6.out.st.cellp)
      | (go_simp; go_at_call 78; (with_reducible refine (HT2.out _ (HA5.out.keep _ _).st.rd).mono ?_); rintro e6 w6 ⟨rfl, hR6, hO6⟩; have HA6 : Hid (ASt w0 W gr pb none W.heap.size 60 #[.string ⟨#[]⟩, .string ⟨#[]⟩, .int .i64 0, .bool false] (s2, s.2) w6) := Lib.hid ((HA5.out.keep _ _).read hR6 hO6); have HZ6 : Hid (ASt w0 W gr pb none w5.heap.size 60 #[.string ⟨#[]⟩, .string ⟨#[]⟩, .int .i64 0, .bool false] (s2, s.2) w6) := Lib.hid ((HA5.out.more _ _).read hR6 hO6); have p6 := HA6.out.st.cellp; have q0 := (HZ6.out.cell 0).trans rfl; have q1 := (HZ6.out.cell 1).trans rfl; have q2 := (HZ6.out.cell 2).trans rfl; have q3 := (HZ6.out.cell 3).trans rfl; have z0 := HZ6.out.free 0; have z1 := HZ6.out.free 1; have z2 := HZ6.out.free 2; have z3 := HZ6.out.free 3)
      | fail)
    all_goals
      go_wp2_with fail
      go_meet
      first
        | exact ⟨_, rfl, Nat.ne_of_lt HA6.out.lt, Lib.hid (HA6.out.keep _ _), Lib.hid (HA6.out.more _ _)⟩
        | exact ⟨_, rfl, Nat.ne_of_lt HA5.out.lt, Lib.hid (ASt.box4 HA6.out HZ6.out (Nat.ne_of_lt HA5.out.lt)).1, Lib.hid (ASt.box4 HA6.out HZ6.out (Nat.ne_of_lt HA5.out.lt)).2⟩
        | exact ⟨_, rfl, Nat.ne_of_lt HA.out.lt, Lib.hid (ASt.box4 HA6.out HZ6.out (Nat.ne_of_lt HA.out.lt)).1, Lib.hid (ASt.box4 HA6.out HZ6.out (Nat.ne_of_lt HA.out.lt)).2⟩
  case rest =>
    obtain ⟨b3, rfl, hne, HA7, HZ7⟩ := hcut
    clear p0 p0a HT HT2
    have p7 := HA7.out.st.cellp
    go_wp2_with fail
    refine (HN.out _ HA7.out.st.rd).mono ?_
    rintro e8 w8 ⟨rfl, hR8, hO8⟩
    have HA8 := Lib.hid (HA7.out.read hR8 hO8)
    have HZ8 := Lib.hid (HZ7.out.read hR8 hO8)
    have q2 := (HZ8.out.cell 2).trans rfl
    have z2 := HZ8.out.free 2
    have HA9 := Lib.hid (HA8.out.other HZ8.out hne 2 (.int .i64 n))
    have HZ9 := Lib.hid (HZ8.out.set 2 (.int .i64 n))
    have p9 := HA9.out.st.cellp
    clear hR8 hO8 p7
    go_wp2_with fail
    refine (HB.out _ HA9.out.st.rd).mono ?_
    rintro e10 w10 ⟨rfl, hR10, hO10⟩
    have HA10 := Lib.hid (HA9.out.read hR10 hO10)
    have HZ10 := Lib.hid (HZ9.out.read hR10 hO10)
    have k0 := (HZ10.out.cell 0).trans rfl
    have k1 := (HZ10.out.cell 1).trans rfl
    have k2 := (HZ10.out.cell 2).trans rfl
    have k3 := (HZ10.out.cell 3).trans rfl
    have z3 := HZ10.out.free 3
    have a0 := (HA10.out.cell 0).trans rfl
    have a1 := (HA10.out.cell 1).trans rfl
    have a2 := (HA10.out.cell 2).trans rfl
    have a3 := (HA10.out.cell 3).trans rfl
    have y0 := HA10.out.free 0
    have y1 := HA10.out.free 1
    have y2 := HA10.out.free 2
    have y3 := HA10.out.free 3
    have HA11 := Lib.hid (HA10.out.other HZ10.out hne 3 (.bool tr))
    clear hR10 hO10 p9 q2 z2
    go_wp2_with fail
    have hF := ((((HA11.out.set 0 (.string tx)).set 1 (.string ty)).set 2 (.int .i64 n)).set 3 (.bool tr))
    refine bodyPost_ret (results_cell_row rfl _ _ W.heap.size 60 #[.string tx, .string ty, .int .i64 n, .bool tr] (0, 0) _ rfl (hF.an.trans rfl) Tryz.underlying60 rfl (by kernel_rfl)) rfl ?_
    exact ⟨[.string tx, .string ty, .int .i64 n, .bool tr], rfl, k60_mkM _ _ _ ⟨tx, ty, n, tr⟩, hF.st, hF.rp⟩
end Go.Proofs.YtcfgmkmllcfjjaaGreatDoor
set_option linter.unusedVariables false
set_option linter.unusedSimpArgs false
namespace Go.Proofs.YtcfgmkmllcfjjaaGreatDoor
open Go.RowKit Go.Proofs.YtcfgmkmllcfjjaaGreatDoorW.PrintWords Go.Proofs.YtcfgmkmllcfjjaaGreatDoorW.PrintMore PImageAll
section
variable {l : List Int} (hl : Bytes l) (hm : l.length ≤ 4611686018427387904)
include hl hm
theorem wnum_le {lo hi : Int} {s : Ws} (h : s.1 ≤ l.length) : (wnum l lo hi s).2.1 ≤ l.length := by
  have hd : (l.drop s.1).length = l.length - s.1 := List.length_drop
  obtain ⟨v, e, n, _, hF, _, hen⟩ := intF_any (hl.drop s.1) (by rw [hd]; omega)
  unfold wnum
  rw [hF]
  split
  · split
    · split
      · show s.1 + (n : Int).toNat ≤ l.length
        rw [Int.toNat_natCast]
        rcases hen with h1 | h1
        · have := h1.2.2; omega
        · omega
      · exact h
    · exact h
  · exact h
omit hl hm in
theorem wbytes_le {n : Nat} {s : Ws} (h : s.1 ≤ l.length) : (wbytes l n s).2.1 ≤ l.length := by
  unfold wbytes
  split
  · split
    · show s.1 + n ≤ l.length; omega
    · exact h
  · exact h
omit hl hm in
theorem wone_le {lo hi : Int} {s : Ws} (h : s.1 ≤ l.length) : (wone l lo hi s).2.1 ≤ l.length := by
  unfold wone
  split
  · split
    · show (if _ then (s.1 + 1, (0 : Int)) else (s.1 + 1, 31)).1 ≤ l.length
      split <;> (show s.1 + 1 ≤ l.length; omega)
    · exact h
  · exact h
theorem wvalue_le {s : Ws} (h : s.1 ≤ l.length) : (wvalue l s).2.1 ≤ l.length := by
  have h1 : (wone l 1 3 s).2.1 ≤ l.length := wone_le h
  unfold wvalue
  split
  · split
    · exact wnum_le hl hm h1
    · split
      · exact wbytes_le (wnum_le hl hm h1)
      · exact wone_le h1
  · exact h1
theorem wvals_le : ∀ (n : Nat) (s : Ws), s.1 ≤ l.length → (wvals l n s).2.1 ≤ l.length
  | 0, _, h => h
  | n + 1, _, h => wvals_le n _ (wvalue_le hl hm h)
theorem wname_le {s : Ws} (h : s.1 ≤ l.length) : (wname l s).2.1 ≤ l.length := by
  have h2 : (wbytes l (wnum l 1 32 s).1.toNat (wnum l 1 32 s).2).2.1 ≤ l.length := wbytes_le (wnum_le hl hm h)
  unfold wname
  show (if _ then _ else _ : Ws).1 ≤ l.length
  split
  · exact h2
  · unfold failW
    split
    · exact h2
    · exact h2
theorem decR_le : (decR l).2.1 ≤ l.length := by
  unfold decR
  split
  · exact wvals_le hl hm _ _ (wnum_le hl hm (wnum_le hl hm (wname_le hl hm (Nat.zero_le _))))
  · exact Nat.zero_le _
end
def seenL (s : Rl) : Int := IntKind.i64.wrap (s.2 + (numR s.1).1)
def seenM (s : Rl) : Bool × Rs := truthR (numR s.1).2
def seenX (s : Rl) : S63 × Nat × Int := decR (seenM s).2.1
def seenE (s : Rl) : Rs := takeR ((seenX s).2.1 : Int) ((seenM s).2.1, (seenM s).2.2 || !((seenX s).2.2 == 0))
def seenR (s : Rl) : S65 × Rl := (⟨seenL s, (seenX s).1, (seenM s).1⟩, (seenE s, seenL s))
theorem seenR_ok : OneOk seenR := by
  intro s hs
  have k1 := hs.num
  have k2 := k1.truth
  refine ⟨Rok.take (k2.mark _) _, ?_, fun _ h => ?_⟩
  · exact Nat.le_trans (take_len _ _) (Nat.le_trans (byte_len _) (num_len _))
  · have h1 := take_bad h
    simp only [Bool.or_eq_false_iff] at h1
    have h2 : (numR s.1).2.2 = false := byte_bad h1.1
    have h3 := num_eats hs h2
    have h5 : (seenR s).2.1.1.length ≤ (numR s.1).2.1.length := Nat.le_trans (take_len _ _) (byte_len _)
    omega
theorem RSt.setLast {w0 W : World} {gr pb p : Nat} {s : Rl} (h : RSt w0 gr pb (some p) s W) (z : Int) : RSt w0 gr pb (some p) (s.1, z) (W.setCell ⟨p, 0, none⟩ (.int .i64 z)) :=
  ⟨h.rd.far (h.pln p rfl) (h.gl p rfl) _, (Below.heap_setCell _ _ _ _ (fun e => h.pp (congrArg some e))).trans h.pbx, fun q hq => by
    injection hq with hq
    subst hq
    exact (blk_set (h.plx p rfl) 0 _).trans rfl, h.pln⟩
theorem ASt.setLast {w0 w W : World} {gr pb p b t : Nat} {cs : Array Value} {s : Rl} (h : ASt w0 w gr pb (some p) b t cs s W) (z : Int) : ASt w0 w gr pb (some p) b t cs (s.1, z) (W.setCell ⟨p, 0, none⟩ (.int .i64 z)) :=
  ⟨h.st.setLast z, (Below.heap_setCell _ _ _ _ (fun e => h.pl' (congrArg some e))).trans h.an, h.rp.trans (Only.setCell _ _ (.inr rfl)), h.bl, h.lo, h.gl, h.bp, h.pl'⟩
theorem ASt.celll {w0 w W : World} {gr pb p b t : Nat} {cs : Array Value} {s : Rl} (h : ASt w0 w gr pb (some p) b t cs s W) : W.cell? ⟨p, 0, none⟩ = some (.int .i64 s.2) ∧ W.frozen? ⟨p, 0, none⟩ = false := ⟨(blk_cell (h.st.plx p rfl) 0).trans rfl, blk_frozen (h.st.plx p rfl) 0⟩
theorem ASt.mark {w0 w W : World} {gr pb b t : Nat} {pl : Option Nat} {cs : Array Value} {s : Rl} (h : ASt w0 w gr pb pl b t cs s W) (v : Bool) : ASt w0 w gr pb pl b t cs ((s.1.1, v), s.2) (W.setCell ⟨gr, 1, none⟩ (.bool v)) := h.read (h.st.rd.mark v) (Ro.set 1 _)
theorem ASt.box5 {w0 w W : World} {gr pb b b' t t' : Nat} {pl : Option Nat} {cs : Array Value} {s : Rl} {x y z u v x' y' z' u' v' : Value} (hA : ASt w0 w gr pb pl b t cs s W) (hZ : ASt w0 w gr pb pl b' t' #[x', y', z', u', v'] s W) (hn : b ≠ b') :
    ASt w0 w gr pb pl b t cs s (((((W.setCell ⟨b', 0, none⟩ x).setCell ⟨b', 1, none⟩ y).setCell ⟨b', 2, none⟩ z).setCell ⟨b', 3, none⟩ u).setCell ⟨b', 4, none⟩ v) ∧ ASt w0 w gr pb pl b' t' #[x, y, z, u, v] s (((((W.setCell ⟨b', 0, none⟩ x).setCell ⟨b', 1, none⟩ y).setCell ⟨b', 2, none⟩ z).setCell ⟨b', 3, none⟩ u).setCell ⟨b', 4, none⟩ v) :=
  ⟨((((hA.other hZ hn 0 x).other (hZ.set 0 x) hn 1 y).other ((hZ.set 0 x).set 1 y) hn 2 z).other (((hZ.set 0 x).set 1 y).set 2 z) hn 3 u).other ((((hZ.set 0 x).set 1 y).set 2 z).set 3 u) hn 4 v, ((((hZ.set 0 x).set 1 y).set 2 z).set 3 u).set 4 v⟩
theorem R_rd {α : Type} {d : Kd α} {e base gr : Nat} {ok : Nat → Prop} {w0 w w1 : World} {s : Rs} {v : Value} {xs : List α} (h : d.R e w base ok v xs) (hS : RAt w0 w gr s) (hq : ∀ q, q ∈ e :: d.E → q ≠ 85) (hO : Ro gr w w1) : d.R e w1 base ok v xs := by
  obtain ⟨_, _, A, c, hb, _⟩ := hS
  exact R_ro h hb hq hO
set_option maxRecDepth 100000 in
set_option maxHeartbeats 8000000 in
theorem rSeen_any {w0 W : World} {gr pb p : Nat} {s : Rl} (hG : GW w0) (hS : RSt w0 gr pb (some p) s W) (hs : Rok s.1) :
    Calls Tryz.prog 92 #[.pointer (some ⟨p, 0, none⟩), .pointer (some ⟨pb, 0, none⟩)] W (FPost k65 w0 W gr pb (some p) (seenR s)) := by
  have hA := ASt.new hS #[.int .i64 0, .string ⟨#[]⟩, .int .i64 0, .slice none 0 0, .bool false] 65
  generalize hW0 : W.alloc (.cells #[.int .i64 0, .string ⟨#[]⟩, .int .i64 0, .slice none 0 0, .bool false] 65) = W0 at *
  have HW0 := Lib.hid hW0
  have HN := Lib.hid (fun W' (h : RAt w0 W' gr s.1) => number_any h hs)
  have HT := Lib.hid (fun W' (h : RAt w0 W' gr (numR s.1).2) => rtruth_any h)
  have HD := Lib.hid (fun W' A c (hB : Below w0.heap.size w0 W') (hc : (seenM s).2.1.length ≤ c) (hC : Kd.C (Kd.int .u8) w0 A (seenM s).2.1.length (seenM s).2.1) => Decode_any (w := W') (l := (seenM s).2.1) (hG.below hB) (Kd.C_below hC hB) hc hs.num.truth.1 hs.num.truth.2)
  have HK := Lib.hid (fun W' b (h : RAt w0 W' gr ((seenM s).2.1, b)) => take_any (n := ((seenX s).2.1 : Int)) h (by have h1 := decR_le hs.num.truth.1 hs.num.truth.2; have h2 : (seenX s).2.1 = (decR (truthR (numR s.1).2).2.1).2.1 := rfl; have h3 := hs.num.truth.2; exact ⟨by omega, by omega⟩))
  have hsr : seenR s = (⟨seenL s, (seenX s).1, (seenM s).1⟩, (takeR ((seenX s).2.1 : Int) ((seenM s).2.1, (seenM s).2.2 || !((seenX s).2.2 == 0)), seenL s)) := rfl
  have hsl : seenL s = IntKind.i64.wrap (s.2 + (numR s.1).1) := rfl
  have hsm : seenM s = truthR (numR s.1).2 := rfl
  have hsx : seenX s = decR (seenM s).2.1 := rfl
  rw [← hsx] at HD
  rw [← hsm] at HT
  generalize seenR s = R at *
  generalize seenX s = x at *
  generalize seenM s = m at *
  generalize seenL s = la at *
  generalize numR s.1 = r at *
  obtain ⟨ev, xn, xe⟩ := x
  obtain ⟨mb, s2⟩ := m
  obtain ⟨d, s1⟩ := r
  simp only at hsr hsl HD HK HT
  have HL := Lib.hid hsl
  have HR := Lib.hid hsr
  have HA := Lib.hid hA
  have p0 := hA.st.cellp
  have l0 := hA.celll.1
  clear hW0 hS hs hA hsr hsl hsm hsx hG
  go_enter Tryz.func92, Tryz.ntmps92
  go_wp2_with fail
  rw [HW0.out]
  go_upto_region 1 with fail
  go_cut [0] from 7 to 10 (fun t0 wx => t0 = .pointer (some ⟨p, 0, none⟩) ∧ Hid (ASt w0 W gr pb (some p) W.heap.size 65 #[.int .i64 0, .string ⟨#[]⟩, .int .i64 0, .slice none 0 0, .bool false] (s1, la) wx))
  case first =>
    go_region_law (first
      | (go_simp; go_at_call 70; (with_reducible refine (HN.out _ HA.out.drew.st.rd).mono ?_); rintro e5 w5 ⟨rfl, hR5, hO5⟩; have HA5 : Hid (ASt w0 W gr pb (some p) W.heap.size 65 #[.int .i64 0, .string ⟨#[]⟩, .int .i64 0, .slice none 0 0, .bool false] (s1, s.2) w5) := Lib.hid (HA.out.drew.read hR5 hO5); have p5 := HA5.out.st.cellp; have l5 := HA5.out.celll.1; have f5 := HA5.out.celll.2)
      | fail)
    all_goals
      go_wp2_with fail
      go_meet
      refine ⟨rfl, ?_⟩
      rw [HL.out]
      exact Lib.hid (HA5.out.setLast _)
  case rest =>
    obtain ⟨rfl, HA1⟩ := hcut
    clear p0 l0 HN HL HA HW0
    obtain ⟨w1, rfl⟩ : ∃ w1 : World, w1 = wc := ⟨_, rfl⟩
    have p1 := HA1.out.st.cellp
    have l1 := HA1.out.celll.1
    have p1a := (HA1.out.keep #[.int .i64 0, .string ⟨#[]⟩, .int .i64 0, .slice none 0 0, .bool false] 65).drew.st.cellp
    have l1a := (HA1.out.keep #[.int .i64 0, .string ⟨#[]⟩, .int .i64 0, .slice none 0 0, .bool false] 65).drew.celll.1
    go_upto_region 2 with fail
    go_cut [3] from 11 to 14 (fun t3 wx => ∃ b3, t3 = .pointer (some ⟨b3, 0, none⟩) ∧ W.heap.size ≠ b3 ∧ Hid (ASt w0 W gr pb (some p) W.heap.size 65 #[.int .i64 0, .string ⟨#[]⟩, .int .i64 0, .slice none 0 0, .bool false] (s2, la) wx) ∧ Hid (ASt w0 W gr pb (some p) b3 65 #[.int .i64 la, .string ⟨#[]⟩, .int .i64 0, .slice none 0 0, .bool mb] (s2, la) wx))
    case first =>
      go_region_law (first
        | (go_simp; go_at_call 87; (with_reducible refine (HT.out _ HA1.out.drew.st.rd).mono ?_); rintro e5 w5 ⟨rfl, hR5, hO5⟩; have HA5 : Hid (ASt w0 W gr pb (some p) W.heap.size 65 #[.int .i64 0, .string ⟨#[]⟩, .int .i64 0, .slice none 0 0, .bool false] (s2, la) w5) := Lib.hid (HA1.out.drew.read hR5 hO5); have p5 := HA5.out.st.cellp; have l5 := HA5.out.celll.1; have p5a := (HA5.out.keep #[.int .i64 0, .string ⟨#[]⟩, .int .i64 0, .slice none 0 0, .bool false] 65).st.cellp; have l5a := (HA5.out.keep #[.int .i64 0, .string ⟨#[]⟩, .int .i64 0, .slice none 0 0, .bool false] 65).celll.1)
        | (go_simp; go_at_call 87; (with_reducible refine (HT.out _ (HA1.out.keep _ _).drew.st.rd).mono ?_); rintro e5 w5 ⟨rfl, hR5, hO5⟩; have HA5 : Hid (ASt w0 W gr pb (some p) W.heap.size 65 #[.int .i64 0, .string ⟨#[]⟩, .int .i64 0, .slice none 0 0, .bool false] (s2, la) w5) := Lib.hid ((HA1.out.keep _ _).drew.read hR5 hO5); have HZ5 : Hid (ASt w0 W gr pb (some p) w1.heap.size 65 #[.int .i64 0, .string ⟨#[]⟩, .int .i64 0, .slice none 0 0, .bool false] (s2, la) w5) := Lib.hid ((HA1.out.more _ _).drew.read hR5 hO5); have p5 := HA5.out.st.cellp; have l5 := HA5.out.celll.1; have q0 := (HZ5.out.cell 0).trans rfl; have q1 := (HZ5.out.cell 1).trans rfl; have q2 := (HZ5.out.cell 2).trans rfl; have q3 := (HZ5.out.cell 3).trans rfl; have q4 := (HZ5.out.cell 4).trans rfl; have z0 := HZ5.out.free 0; have z1 := HZ5.out.free 1; have z2 := HZ5.out.free 2; have z3 := HZ5.out.free 3; have z4 := HZ5.out.free 4)
        | fail)
      all_goals
        go_wp2_with fail
        go_meet
        first
          | exact ⟨_, rfl, Nat.ne_of_lt HA5.out.lt, Lib.hid (HA5.out.keep _ _), Lib.hid (HA5.out.more _ _)⟩
          | exact ⟨_, rfl, Nat.ne_of_lt HA1.out.lt, Lib.hid (ASt.box5 HA5.out HZ5.out (Nat.ne_of_lt HA1.out.lt)).1, Lib.hid (ASt.box5 HA5.out HZ5.out (Nat.ne_of_lt HA1.out.lt)).2⟩
    case rest =>
      obtain ⟨b3, rfl, hne, HA2, HZ2⟩ := hcut
      clear p1 l1 p1a l1a HT HA1
      obtain ⟨w2, rfl⟩ : ∃ w2 : World, w2 = wc := ⟨_, rfl⟩
      have p2 := HA2.out.st.cellp
      obtain ⟨A, c, g0, _, _, hc, hC⟩ := HA2.out.st.rd.cells
      have HC := Lib.hid hC
      clear hC
      go_wp2_with fail
      refine (HD.out _ A c HA2.out.st.rd.2.1 hc HC.out).mono ?_
      rintro e3 w3 ⟨v, rfl, hv, hB3⟩
      obtain ⟨A5, c5, rfl⟩ := Kd.R_slice hv
      have hA3 := HA2.out.below hB3
      have hZ3 := HZ2.out.below hB3
      have hV3 : k67.R 67 w3 W.heap.size (fun _ => True) (.slice A5 ev.f2.length c5) ev.f2 := Kd.R_lower hv HA2.out.rp.size
      have HA4 := Lib.hid (hA3.keep #[.string ev.f0, .int .i64 ev.f1, .slice A5 ev.f2.length c5] 63)
      have HZ4 := Lib.hid (hZ3.keep #[.string ev.f0, .int .i64 ev.f1, .slice A5 ev.f2.length c5] 63)
      have HY4 := Lib.hid (hA3.more #[.string ev.f0, .int .i64 ev.f1, .slice A5 ev.f2.length c5] 63)
      have HV4 := Lib.hid (Kd.R_alloc hV3 (.cells #[.string ev.f0, .int .i64 ev.f1, .slice A5 ev.f2.length c5] 63))
      have HNE4 := Lib.hid (Nat.ne_of_lt hA3.lt)
      have HNE5 := Lib.hid (Nat.ne_of_lt hZ3.lt)
      obtain ⟨A6, c6, _, g1, f1, _, _⟩ := HA4.out.st.rd.cells
      have g1 : (w3.alloc (.cells #[.string ev.f0, .int .i64 ev.f1, .slice A5 ev.f2.length c5] 63)).cell? ⟨gr, 1, none⟩ = some (.bool s2.2) := g1
      have p4 := HA4.out.st.cellp
      clear hv hB3 hA3 hZ3 hV3 g0 p2 hc HC HD HA2 HZ2
      obtain ⟨mk, hmk⟩ : ∃ mk, (s2.2 || !(xe == 0)) = mk := ⟨_, rfl⟩
      have HMK := Lib.hid hmk
      clear hmk
      go_upto_region 4 with fail
      go_cut [0] from 24 to 34 (fun t0 wx => t0 = .pointer (some ⟨p, 0, none⟩) ∧ Hid (ASt w0 W gr pb (some p) W.heap.size 65 #[.int .i64 0, .string ⟨#[]⟩, .int .i64 0, .slice none 0 0, .bool false] ((s2.1, mk), la) wx) ∧ Hid (ASt w0 W gr pb (some p) b3 65 #[.int .i64 la, .string ⟨#[]⟩, .int .i64 0, .slice none 0 0, .bool mb] ((s2.1, mk), la) wx) ∧ Hid (ASt w0 W gr pb (some p) w3.heap.size 63 #[.string ev.f0, .int .i64 ev.f1, .slice A5 ev.f2.length c5] ((s2.1, mk), la) wx) ∧ Hid (k67.R 67 wx W.heap.size (fun _ => True) (.slice A5 ev.f2.length c5) ev.f2))
      case first =>
        obtain ⟨s2l, bad⟩ := s2
        have g1 : (w3.alloc (.cells #[.string ev.f0, .int .i64 ev.f1, .slice A5 ev.f2.length c5] 63)).cell? ⟨gr, 1, none⟩ = some (.bool bad) := g1
        have hq55 : ∀ q, q ∈ 67 :: k67.E → q ≠ 85 := k67q (by decide)
        have HFIN := Lib.hid (show ∀ mk', (bad || !(xe == 0)) = mk' → Hid (ASt w0 W gr pb (some p) W.heap.size 65 #[.int .i64 0, .string ⟨#[]⟩, .int .i64 0, .slice none 0 0, .bool false] ((s2l, mk), la) ((w3.alloc (.cells #[.string ev.f0, .int .i64 ev.f1, .slice A5 ev.f2.length c5] 63)).setCell ⟨gr, 1, none⟩ (.bool mk')).drew) ∧ Hid (ASt w0 W gr pb (some p) b3 65 #[.int .i64 la, .string ⟨#[]⟩, .int .i64 0, .slice none 0 0, .bool mb] ((s2l, mk), la) ((w3.alloc (.cells #[.string ev.f0, .int .i64 ev.f1, .slice A5 ev.f2.length c5] 63)).setCell ⟨gr, 1, none⟩ (.bool mk')).drew) ∧ Hid (ASt w0 W gr pb (some p) w3.heap.size 63 #[.string ev.f0, .int .i64 ev.f1, .slice A5 ev.f2.length c5] ((s2l, mk), la) ((w3.alloc (.cells #[.string ev.f0, .int .i64 ev.f1, .slice A5 ev.f2.length c5] 63)).setCell ⟨gr, 1, none⟩ (.bool mk')).drew) ∧ Hid (k67.R 67 ((w3.alloc (.cells #[.string ev.f0, .int .i64 ev.f1, .slice A5 ev.f2.length c5] 63)).setCell ⟨gr, 1, none⟩ (.bool mk')).drew W.heap.size (fun _ => True) (.slice A5 ev.f2.length c5) ev.f2) from fun mk' h => by
          have e : mk' = mk := h.symm.trans HMK.out
          subst e
          exact ⟨Lib.hid (HA4.out.mark mk').drew, Lib.hid (HZ4.out.mark mk').drew, Lib.hid (HY4.out.mark mk').drew, Lib.hid (Kd.R_drew (R_rd HV4.out HY4.out.st.rd hq55 (Ro.set 1 _)))⟩)
        cases bad
        · obtain ⟨ne, hne5⟩ : ∃ ne : Bool, (xe != 0) = ne := ⟨_, rfl⟩
          first | go_region_law (fail) | fail
          all_goals
            go_wp2_with fail
            go_meet
            exact ⟨rfl, HFIN.out ne (by rw [← hne5]; rfl)⟩
        · first | go_region_law (fail) | fail
          all_goals
            go_wp2_with fail
            go_meet
            exact ⟨rfl, HFIN.out true rfl⟩
      case rest =>
        obtain ⟨rfl, HA5, HZ5, HY5, HV5⟩ := hcut
        clear g1 f1 p4 HA4 HZ4 HY4 HV4
        obtain ⟨w5, rfl⟩ : ∃ w5 : World, w5 = wc := ⟨_, rfl⟩
        have p5 := HA5.out.st.cellp
        go_wp2_with fail
        refine (HK.out _ mk HA5.out.st.rd).mono ?_
        rintro e7 w7 ⟨A7, c7, rfl, hc7, hC7, hR7, hO7⟩
        have hA7 := HA5.out.read hR7 hO7
        have hZ7 := HZ5.out.read hR7 hO7
        have hY7 := HY5.out.read hR7 hO7
        have hV7 : k67.R 67 w7 W.heap.size (fun _ => True) (.slice A5 ev.f2.length c5) ev.f2 := R_rd HV5.out HA5.out.st.rd (k67q (by decide)) hO7
        have x0 := (hY7.cell 0).trans rfl
        have x1 := (hY7.cell 1).trans rfl
        have x2 := (hY7.cell 2).trans rfl
        have q0 := (hZ7.cell 0).trans rfl
        have q1 := (hZ7.cell 1).trans rfl
        have q2 := (hZ7.cell 2).trans rfl
        have q3 := (hZ7.cell 3).trans rfl
        have q4 := (hZ7.cell 4).trans rfl
        have z1 := hZ7.free 1
        have z2 := hZ7.free 2
        have z3 := hZ7.free 3
        have a0 := (hA7.cell 0).trans rfl
        have a1 := (hA7.cell 1).trans rfl
        have a2 := (hA7.cell 2).trans rfl
        have a3 := (hA7.cell 3).trans rfl
        have a4 := (hA7.cell 4).trans rfl
        have y0 := hA7.free 0
        have y1 := hA7.free 1
        have y2 := hA7.free 2
        have y3 := hA7.free 3
        have y4 := hA7.free 4
        have hZ8 := ((hZ7.set 1 (.string ev.f0)).set 2 (.int .i64 ev.f1)).set 3 (.slice A5 ev.f2.length c5)
        have hA8 := ((hA7.other hZ7 hne 1 (.string ev.f0)).other (hZ7.set 1 _) hne 2 (.int .i64 ev.f1)).other ((hZ7.set 1 _).set 2 _) hne 3 (.slice A5 ev.f2.length c5)
        have hq71 : ∀ q, q ∈ 67 :: k67.E → q ≠ 65 := k67q (by decide)
        have hV8 := Kd.R_set (Kd.R_set (Kd.R_set hV7 hZ7.an hq71 1 (.string ev.f0)) (hZ7.set 1 (.string ev.f0)).an hq71 2 (.int .i64 ev.f1)) ((hZ7.set 1 (.string ev.f0)).set 2 (.int .i64 ev.f1)).an hq71 3 (.slice A5 ev.f2.length c5)
        have hF := ((((hA8.set 0 (.int .i64 la)).set 1 (.string ev.f0)).set 2 (.int .i64 ev.f1)).set 3 (.slice A5 ev.f2.length c5)).set 4 (.bool mb)
        have hV9 := Kd.R_set (Kd.R_set (Kd.R_set (Kd.R_set (Kd.R_set hV8 hA8.an hq71 0 (.int .i64 la)) (hA8.set 0 (.int .i64 la)).an hq71 1 (.string ev.f0)) ((hA8.set 0 (.int .i64 la)).set 1 (.string ev.f0)).an hq71 2 (.int .i64 ev.f1)) (((hA8.set 0 (.int .i64 la)).set 1 (.string ev.f0)).set 2 (.int .i64 ev.f1)).an hq71 3 (.slice A5 ev.f2.length c5)) ((((hA8.set 0 (.int .i64 la)).set 1 (.string ev.f0)).set 2 (.int .i64 ev.f1)).set 3 (.slice A5 ev.f2.length c5)).an hq71 4 (.bool mb)
        have HF := Lib.hid hF
        have HV9 := Lib.hid hV9
        have HNA := Lib.hid (Nat.ne_of_lt HA5.out.lt)
        clear hA7 hZ7 hY7 hV7 hZ8 hA8 hV8 hF hV9 hc7 hC7 hR7 hO7 p5
        go_wp2_with fail
        refine bodyPost_ret (results_cell_row rfl _ _ W.heap.size 65 #[.int .i64 la, .string ev.f0, .int .i64 ev.f1, .slice A5 ev.f2.length c5, .bool mb] (0, 0) _ rfl (HF.out.an.trans rfl) Tryz.underlying65 rfl (by kernel_rfl)) rfl ?_
        rw [HR.out, HMK.out]
        exact ⟨[.int .i64 la, .string ev.f0, .int .i64 ev.f1, .slice A5 ev.f2.length c5, .bool mb], rfl, k65_mkM _ _ _ ⟨la, ev, mb⟩ HV9.out, HF.out.st, HF.out.rp⟩
end Go.Proofs.YtcfgmkmllcfjjaaGreatDoor
