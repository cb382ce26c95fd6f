import Derived.Test.YtcfgmkmllcfjjaaDoorZInC
set_option linter.unusedVariables false
set_option linter.unusedSimpArgs false
namespace Go.Proofs.YtcfgmkmllcfjjaaDoor
open Go.RowKit Go.Proofs.YtcfgmkmllcfjjaaDoorW.PrintWords Go.Proofs.YtcfgmkmllcfjjaaDoorW.PrintMore PImageForm
namespace ASt
variable {w0 w W W1 : World} {gr pb b b' t t' : Nat} {pl : Option Nat} {cs cs' : Array Value} {s s1 : Rl}
theorem more (h : ASt w0 w gr pb pl b t cs s W) (o : Array Value) (t' : Nat) : ASt w0 w gr pb pl W.heap.size t' o s (W.alloc (.cells o t')) :=
  ⟨h.st.below (below_new W _), blk_new W _, h.rp.trans (Rp.of_below (below_new W _)), h.rp.size, h.lo, h.gl, fun e => by have := blk_lt' h.st.pbx; omega, fun e => by have := blk_lt' (h.st.plx _ e.symm); omega⟩
theorem keep (h : ASt w0 w gr pb pl b t cs s W) (o : Array Value) (t' : Nat) : ASt w0 w gr pb pl b t cs s (W.alloc (.cells o t')) := h.below (below_new W _)
theorem lt (h : ASt w0 w gr pb pl b t cs s W) : b < W.heap.size := blk_lt' h.an
theorem other (h : ASt w0 w gr pb pl b t cs s W) (h' : ASt w0 w gr pb pl b' t' cs' s W) (hn : b ≠ b') (i : Nat) (v : Value) : ASt w0 w gr pb pl b t cs s (W.setCell ⟨b', i, none⟩ v) :=
  ⟨h.st.far (Nat.le_trans h'.lo h'.bl) h'.bg h'.bp h'.pl' v, (Below.heap_setCell _ _ _ _ hn).trans h.an, h.rp.setNew h'.bl v, h.bl, h.lo, h.gl, h.bp, h.pl'⟩
theorem box4 {x y z u x' y' z' u' : Value} (hA : ASt w0 w gr pb pl b t cs s W) (hZ : ASt w0 w gr pb pl b' t' #[x', y', z', u'] s W) (hn : b ≠ b') :
    ASt w0 w gr pb pl b t cs s ((((W.setCell ⟨b', 0, none⟩ x).setCell ⟨b', 1, none⟩ y).setCell ⟨b', 2, none⟩ z).setCell ⟨b', 3, none⟩ u) ∧ ASt w0 w gr pb pl b' t' #[x, y, z, u] s ((((W.setCell ⟨b', 0, none⟩ x).setCell ⟨b', 1, none⟩ y).setCell ⟨b', 2, none⟩ z).setCell ⟨b', 3, none⟩ u) :=
  ⟨(((hA.other hZ hn 0 x).other (hZ.set 0 x) hn 1 y).other ((hZ.set 0 x).set 1 y) hn 2 z).other (((hZ.set 0 x).set 1 y).set 2 z) hn 3 u, (((hZ.set 0 x).set 1 y).set 2 z).set 3 u⟩
end ASt
def savedR (s : Rl) : S57 × Rl :=
  (⟨(textR s.1).1, (textR (textR s.1).2).1, (numR (textR (textR s.1).2).2).1, (truthR (numR (textR (textR s.1).2).2).2).1⟩, ((truthR (numR (textR (textR s.1).2).2).2).2, s.2))
theorem savedR_ok : OneOk savedR := by
  intro s hs
  have k1 := hs.text
  have k2 := k1.text
  have k3 := k2.num
  refine ⟨k3.truth, ?_, fun _ h => ?_⟩
  · exact Nat.le_trans (byte_len _) (Nat.le_trans (num_len _) (Nat.le_trans (text_len _) (text_len _)))
  · have h1 : (numR (textR (textR s.1).2).2).2.2 = false := byte_bad h
    have h2 := num_eats k2 h1
    have h3 := text_eats k1 h2.1
    have h4 := text_eats hs h3.1
    have h5 : (savedR s).2.1.1.length ≤ (numR (textR (textR s.1).2).2).2.1.length := byte_len _
    omega
set_option maxRecDepth 100000 in
set_option maxHeartbeats 4000000 in
theorem rSaved_any {w0 W : World} {gr pb : Nat} {s : Rl} (hS : RSt w0 gr pb none s W) (hs : Rok s.1) :
    Calls Tryd.prog 50 #[.pointer (some ⟨pb, 0, none⟩)] W (FPost k57 w0 W gr pb none (savedR s)) := by
  have hA := ASt.new hS #[.string ⟨#[]⟩, .string ⟨#[]⟩, .int .i64 0, .bool false] 57
  generalize hW0 : W.alloc (.cells #[.string ⟨#[]⟩, .string ⟨#[]⟩, .int .i64 0, .bool false] 57) = W0 at *
  have HW0 := Lib.hid hW0
  have HT := Lib.hid (fun W' (h : RAt w0 W' gr s.1) => rtext_any h hs)
  have HT2 := Lib.hid (fun W' (h : RAt w0 W' gr (textR s.1).2) => rtext_any h hs.text)
  have HN := Lib.hid (fun W' (h : RAt w0 W' gr (textR (textR s.1).2).2) => number_any h hs.text.text)
  have HB := Lib.hid (fun W' (h : RAt w0 W' gr (numR (textR (textR s.1).2).2).2) => rtruth_any h)
  unfold savedR
  generalize textR s.1 = r at *
  obtain ⟨tx, s1⟩ := r
  simp only at HT2 HN HB ⊢
  generalize textR s1 = r at *
  obtain ⟨ty, s2⟩ := r
  simp only at HN HB ⊢
  generalize numR s2 = r at *
  obtain ⟨n, s3⟩ := r
  simp only at HB ⊢
  generalize truthR s3 = r at *
  obtain ⟨tr, s4⟩ := r
  simp only
  have HA := Lib.hid hA
  have p0 := hA.st.cellp
  have p0a := (hA.keep #[.string ⟨#[]⟩, .string ⟨#[]⟩, .int .i64 0, .bool false] 57).drew.st.cellp
  clear hW0 hS hs hA
  go_enter Tryd.func50, Tryd.ntmps50
  go_wp2_with fail
  rw [HW0.out]
  go_upto_region 1 with fail
  go_cut [2] from 3 to 7 (fun t2 wx => ∃ b3, t2 = .pointer (some ⟨b3, 0, none⟩) ∧ W.heap.size ≠ b3 ∧ Hid (ASt w0 W gr pb none W.heap.size 57 #[.string ⟨#[]⟩, .string ⟨#[]⟩, .int .i64 0, .bool false] (s2, s.2) wx) ∧ Hid (ASt w0 W gr pb none b3 57 #[.string tx, .string ty, .int .i64 0, .bool false] (s2, s.2) wx))
  case first =>
    go_region_law (first
      | (go_simp; go_at_call 42; (with_reducible refine (HT.out _ HA.out.drew.st.rd).mono ?_); rintro e5 w5 ⟨rfl, hR5, hO5⟩; have HA5 : Hid (ASt w0 W gr pb none W.heap.size 57 #[.string ⟨#[]⟩, .string ⟨#[]⟩, .int .i64 0, .bool false] (s1, s.2) w5) := Lib.hid (HA.out.drew.read hR5 hO5); have p5 := HA5.out.st.cellp; have p5a := (HA5.out.keep #[.string ⟨#[]⟩, .string ⟨#[]⟩, .int .i64 0, .bool false] 57).st.cellp)
      | (go_simp; go_at_call 42; (with_reducible refine (HT.out _ (HA.out.keep _ _).drew.st.rd).mono ?_); rintro e5 w5 ⟨rfl, hR5, hO5⟩; have HA5 : Hid (ASt w0 W gr pb none W.heap.size 57 #[.string ⟨#[]⟩, .string ⟨#[]⟩, .int .i64 0, .bool false] (s1, s.2) w5) := Lib.hid ((HA.out.keep _ _).drew.read hR5 hO5); have HZ5 : Hid (ASt w0 W gr pb none W0.heap.size 57 #[.string ⟨#[]⟩, .string ⟨#[]⟩, .int .i64 0, .bool false] (s1, s.2) w5) := Lib.hid ((HA.out.more _ _).drew.read hR5 hO5); have p5 := HA5.out.st.cellp; have p5a := (HA5.out.keep #[.string ⟨#[]⟩, .string ⟨#[]⟩, .int .i64 0, .bool false] 57).st.cellp)
      | (go_simp; go_at_call 42; (with_reducible refine (HT2.out _ HZ5.out.st.rd).mono ?_); rintro e6 w6 ⟨rfl, hR6, hO6⟩; have HA6 : Hid (ASt w0 W gr pb none W.heap.size 57 #[.string ⟨#[]⟩, .string ⟨#[]⟩, .int .i64 0, .bool false] (s2, s.2) w6) := Lib.hid (HA5.out.read hR6 hO6); have HZ6 : Hid (ASt w0 W gr pb none W0.heap.size 57 #[.string ⟨#[]⟩, .string ⟨#[]⟩, .int .i64 0, .bool false] (s2, s.2) w6) := Lib.hid (HZ5.out.read hR6 hO6); have p6 := HA6.out.st.cellp; have q0 := (HZ6.out.cell 0).trans rfl; have q1 := (HZ6.out.cell 1).trans rfl; have q2 := (HZ6.out.cell 2).trans rfl; have q3 := (HZ6.out.cell 3).trans rfl; have z0 := HZ6.out.free 0; have z1 := HZ6.out.free 1; have z2 := HZ6.out.free 2; have z3 := HZ6.out.free 3)
      | (go_simp; go_at_call 42; (with_reducible refine (HT2.out _ HA5.out.st.rd).mono ?_); rintro e6 w6 ⟨rfl, hR6, hO6⟩; have HA6 : Hid (ASt w0 W gr pb none W.heap.size 57 #[.string ⟨#[]⟩, .string ⟨#[]⟩, .int .i64 0, .bool false] (s2, s.2) w6) := Lib.hid (HA5.out.read hR6 hO6); have p6 := HA6.out.st.cellp)
      | (go_simp; go_at_call 42; (with_reducible refine (HT2.out _ (HA5.out.keep _ _).st.rd).mono ?_); rintro e6 w6 ⟨rfl, hR6, hO6⟩; have HA6 : Hid (ASt w0 W gr pb none W.heap.size 57 #[.string ⟨#[]⟩, .string ⟨#[]⟩, .int .i64 0, .bool false] (s2, s.2) w6) := Lib.hid ((HA5.out.keep _ _).read hR6 hO6); have HZ6 : Hid (ASt w0 W gr pb none w5.heap.size 57 #[.string ⟨#[]⟩, .string ⟨#[]⟩, .int .i64 0, .bool false] (s2, s.2) w6) := Lib.hid ((HA5.out.more _ _).read hR6 hO6); have p6 := HA6.out.st.cellp; have q0 := (HZ6.out.cell 0).trans rfl; have q1 := (HZ6.out.cell 1).trans rfl; have q2 := (HZ6.out.cell 2).trans rfl; have q3 := (HZ6.out.cell 3).trans rfl; have z0 := HZ6.out.free 0; have z1 := HZ6.out.free 1; have z2 := HZ6.out.free 2; have z3 := HZ6.out.free 3)
      | fail)
    all_goals
      go_wp2_with fail
      go_meet
      first
        | exact ⟨_, rfl, Nat.ne_of_lt HA6.out.lt, Lib.hid (HA6.out.keep _ _), Lib.hid (HA6.out.more _ _)⟩
        | exact ⟨_, rfl, Nat.ne_of_lt HA5.out.lt, Lib.hid (ASt.box4 HA6.out HZ6.out (Nat.ne_of_lt HA5.out.lt)).1, Lib.hid (ASt.box4 HA6.out HZ6.out (Nat.ne_of_lt HA5.out.lt)).2⟩
        | exact ⟨_, rfl, Nat.ne_of_lt HA.out.lt, Lib.hid (ASt.box4 HA6.out HZ6.out (Nat.ne_of_lt HA.out.lt)).1, Lib.hid (ASt.box4 HA6.out HZ6.out (Nat.ne_of_lt HA.out.lt)).2⟩
  case rest =>
    obtain ⟨b3, rfl, hne, HA7, HZ7⟩ := hcut
    clear p0 p0a HT HT2
    have p7 := HA7.out.st.cellp
    go_wp2_with fail
    refine (HN.out _ HA7.out.st.rd).mono ?_
    rintro e8 w8 ⟨rfl, hR8, hO8⟩
    have HA8 := Lib.hid (HA7.out.read hR8 hO8)
    have HZ8 := Lib.hid (HZ7.out.read hR8 hO8)
    have q2 := (HZ8.out.cell 2).trans rfl
    have z2 := HZ8.out.free 2
    have HA9 := Lib.hid (HA8.out.other HZ8.out hne 2 (.int .i64 n))
    have HZ9 := Lib.hid (HZ8.out.set 2 (.int .i64 n))
    have p9 := HA9.out.st.cellp
    clear hR8 hO8 p7
    go_wp2_with fail
    refine (HB.out _ HA9.out.st.rd).mono ?_
    rintro e10 w10 ⟨rfl, hR10, hO10⟩
    have HA10 := Lib.hid (HA9.out.read hR10 hO10)
    have HZ10 := Lib.hid (HZ9.out.read hR10 hO10)
    have k0 := (HZ10.out.cell 0).trans rfl
    have k1 := (HZ10.out.cell 1).trans rfl
    have k2 := (HZ10.out.cell 2).trans rfl
    have k3 := (HZ10.out.cell 3).trans rfl
    have z3 := HZ10.out.free 3
    have a0 := (HA10.out.cell 0).trans rfl
    have a1 := (HA10.out.cell 1).trans rfl
    have a2 := (HA10.out.cell 2).trans rfl
    have a3 := (HA10.out.cell 3).trans rfl
    have y0 := HA10.out.free 0
    have y1 := HA10.out.free 1
    have y2 := HA10.out.free 2
    have y3 := HA10.out.free 3
    have HA11 := Lib.hid (HA10.out.other HZ10.out hne 3 (.bool tr))
    clear hR10 hO10 p9 q2 z2
    go_wp2_with fail
    have hF := ((((HA11.out.set 0 (.string tx)).set 1 (.string ty)).set 2 (.int .i64 n)).set 3 (.bool tr))
    refine bodyPost_ret (results_cell_row rfl _ _ W.heap.size 57 #[.string tx, .string ty, .int .i64 n, .bool tr] (0, 0) _ rfl (hF.an.trans rfl) Tryd.underlying57 rfl (by kernel_rfl)) rfl ?_
    exact ⟨[.string tx, .string ty, .int .i64 n, .bool tr], rfl, k57_mkM _ _ _ ⟨tx, ty, n, tr⟩, hF.st, hF.rp⟩
end Go.Proofs.YtcfgmkmllcfjjaaDoor
