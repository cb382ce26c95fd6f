import Derived.Test.YtcfgmkmllcfjjaaDoorZInD
set_option linter.unusedVariables false
set_option linter.unusedSimpArgs false
namespace Go.Proofs.YtcfgmkmllcfjjaaDoor
open Go.RowKit Go.Proofs.YtcfgmkmllcfjjaaDoorW.PrintWords Go.Proofs.YtcfgmkmllcfjjaaDoorW.PrintMore PImageForm
section
variable {l : List Int} (hl : Bytes l) (hm : l.length ≤ 4611686018427387904)
include hl hm
theorem wnum_le {lo hi : Int} {s : Ws} (h : s.1 ≤ l.length) : (wnum l lo hi s).2.1 ≤ l.length := by
  have hd : (l.drop s.1).length = l.length - s.1 := List.length_drop
  obtain ⟨v, e, n, _, hF, _, hen⟩ := intF_any (hl.drop s.1) (by rw [hd]; omega)
  unfold wnum
  rw [hF]
  split
  · split
    · split
      · show s.1 + (n : Int).toNat ≤ l.length
        rw [Int.toNat_natCast]
        rcases hen with h1 | h1
        · have := h1.2.2; omega
        · omega
      · exact h
    · exact h
  · exact h
omit hl hm in
theorem wbytes_le {n : Nat} {s : Ws} (h : s.1 ≤ l.length) : (wbytes l n s).2.1 ≤ l.length := by
  unfold wbytes
  split
  · split
    · show s.1 + n ≤ l.length; omega
    · exact h
  · exact h
omit hl hm in
theorem wone_le {lo hi : Int} {s : Ws} (h : s.1 ≤ l.length) : (wone l lo hi s).2.1 ≤ l.length := by
  unfold wone
  split
  · split
    · show (if _ then (s.1 + 1, (0 : Int)) else (s.1 + 1, 31)).1 ≤ l.length
      split <;> (show s.1 + 1 ≤ l.length; omega)
    · exact h
  · exact h
theorem wvalue_le {s : Ws} (h : s.1 ≤ l.length) : (wvalue l s).2.1 ≤ l.length := by
  have h1 : (wone l 1 3 s).2.1 ≤ l.length := wone_le h
  unfold wvalue
  split
  · split
    · exact wnum_le hl hm h1
    · split
      · exact wbytes_le (wnum_le hl hm h1)
      · exact wone_le h1
  · exact h1
theorem wvals_le : ∀ (n : Nat) (s : Ws), s.1 ≤ l.length → (wvals l n s).2.1 ≤ l.length
  | 0, _, h => h
  | n + 1, _, h => wvals_le n _ (wvalue_le hl hm h)
theorem wname_le {s : Ws} (h : s.1 ≤ l.length) : (wname l s).2.1 ≤ l.length := by
  have h2 : (wbytes l (wnum l 1 32 s).1.toNat (wnum l 1 32 s).2).2.1 ≤ l.length := wbytes_le (wnum_le hl hm h)
  unfold wname
  show (if _ then _ else _ : Ws).1 ≤ l.length
  split
  · exact h2
  · unfold failW
    split
    · exact h2
    · exact h2
theorem decR_le : (decR l).2.1 ≤ l.length := by
  unfold decR
  split
  · exact wvals_le hl hm _ _ (wnum_le hl hm (wnum_le hl hm (wname_le hl hm (Nat.zero_le _))))
  · exact Nat.zero_le _
end
def seenL (s : Rl) : Int := IntKind.i64.wrap (s.2 + (numR s.1).1)
def seenM (s : Rl) : Bool × Rs := truthR (numR s.1).2
def seenX (s : Rl) : S69 × Nat × Int := decR (seenM s).2.1
def seenE (s : Rl) : Rs := takeR ((seenX s).2.1 : Int) ((seenM s).2.1, (seenM s).2.2 || !((seenX s).2.2 == 0))
def seenR (s : Rl) : S71 × Rl := (⟨seenL s, (seenX s).1, (seenM s).1⟩, (seenE s, seenL s))
theorem seenR_ok : OneOk seenR := by
  intro s hs
  have k1 := hs.num
  have k2 := k1.truth
  refine ⟨Rok.take (k2.mark _) _, ?_, fun _ h => ?_⟩
  · exact Nat.le_trans (take_len _ _) (Nat.le_trans (byte_len _) (num_len _))
  · have h1 := take_bad h
    simp only [Bool.or_eq_false_iff] at h1
    have h2 : (numR s.1).2.2 = false := byte_bad h1.1
    have h3 := num_eats hs h2
    have h5 : (seenR s).2.1.1.length ≤ (numR s.1).2.1.length := Nat.le_trans (take_len _ _) (byte_len _)
    omega
theorem RSt.setLast {w0 W : World} {gr pb p : Nat} {s : Rl} (h : RSt w0 gr pb (some p) s W) (z : Int) : RSt w0 gr pb (some p) (s.1, z) (W.setCell ⟨p, 0, none⟩ (.int .i64 z)) :=
  ⟨h.rd.far (h.pln p rfl) (h.gl p rfl) _, (Below.heap_setCell _ _ _ _ (fun e => h.pp (congrArg some e))).trans h.pbx, fun q hq => by
    injection hq with hq
    subst hq
    exact (blk_set (h.plx p rfl) 0 _).trans rfl, h.pln⟩
theorem ASt.setLast {w0 w W : World} {gr pb p b t : Nat} {cs : Array Value} {s : Rl} (h : ASt w0 w gr pb (some p) b t cs s W) (z : Int) : ASt w0 w gr pb (some p) b t cs (s.1, z) (W.setCell ⟨p, 0, none⟩ (.int .i64 z)) :=
  ⟨h.st.setLast z, (Below.heap_setCell _ _ _ _ (fun e => h.pl' (congrArg some e))).trans h.an, h.rp.trans (Only.setCell _ _ (.inr rfl)), h.bl, h.lo, h.gl, h.bp, h.pl'⟩
theorem ASt.celll {w0 w W : World} {gr pb p b t : Nat} {cs : Array Value} {s : Rl} (h : ASt w0 w gr pb (some p) b t cs s W) : W.cell? ⟨p, 0, none⟩ = some (.int .i64 s.2) ∧ W.frozen? ⟨p, 0, none⟩ = false := ⟨(blk_cell (h.st.plx p rfl) 0).trans rfl, blk_frozen (h.st.plx p rfl) 0⟩
theorem ASt.mark {w0 w W : World} {gr pb b t : Nat} {pl : Option Nat} {cs : Array Value} {s : Rl} (h : ASt w0 w gr pb pl b t cs s W) (v : Bool) : ASt w0 w gr pb pl b t cs ((s.1.1, v), s.2) (W.setCell ⟨gr, 1, none⟩ (.bool v)) := h.read (h.st.rd.mark v) (Ro.set 1 _)
theorem ASt.box5 {w0 w W : World} {gr pb b b' t t' : Nat} {pl : Option Nat} {cs : Array Value} {s : Rl} {x y z u v x' y' z' u' v' : Value} (hA : ASt w0 w gr pb pl b t cs s W) (hZ : ASt w0 w gr pb pl b' t' #[x', y', z', u', v'] s W) (hn : b ≠ b') :
    ASt w0 w gr pb pl b t cs s (((((W.setCell ⟨b', 0, none⟩ x).setCell ⟨b', 1, none⟩ y).setCell ⟨b', 2, none⟩ z).setCell ⟨b', 3, none⟩ u).setCell ⟨b', 4, none⟩ v) ∧ ASt w0 w gr pb pl b' t' #[x, y, z, u, v] s (((((W.setCell ⟨b', 0, none⟩ x).setCell ⟨b', 1, none⟩ y).setCell ⟨b', 2, none⟩ z).setCell ⟨b', 3, none⟩ u).setCell ⟨b', 4, none⟩ v) :=
  ⟨((((hA.other hZ hn 0 x).other (hZ.set 0 x) hn 1 y).other ((hZ.set 0 x).set 1 y) hn 2 z).other (((hZ.set 0 x).set 1 y).set 2 z) hn 3 u).other ((((hZ.set 0 x).set 1 y).set 2 z).set 3 u) hn 4 v, ((((hZ.set 0 x).set 1 y).set 2 z).set 3 u).set 4 v⟩
theorem R_rd {α : Type} {d : Kd α} {e base gr : Nat} {ok : Nat → Prop} {w0 w w1 : World} {s : Rs} {v : Value} {xs : List α} (h : d.R e w base ok v xs) (hS : RAt w0 w gr s) (hq : ∀ q, q ∈ e :: d.E → q ≠ 55) (hO : Ro gr w w1) : d.R e w1 base ok v xs := by
  obtain ⟨_, _, A, c, hb, _⟩ := hS
  exact R_ro h hb hq hO
def zSeen : Array Value := #[.int .i64 0, .string ⟨#[]⟩, .int .i64 0, .slice none 0 0, .bool false]
set_option maxRecDepth 100000 in
set_option maxHeartbeats 8000000 in
theorem rSeen_any {w0 W : World} {gr pb p : Nat} {s : Rl} (hG : GW w0) (hS : RSt w0 gr pb (some p) s W) (hs : Rok s.1) :
    Calls Tryd.prog 56 #[.pointer (some ⟨p, 0, none⟩), .pointer (some ⟨pb, 0, none⟩)] W (FPost k71 w0 W gr pb (some p) (seenR s)) := by
  have hA := ASt.new hS #[.int .i64 0, .string ⟨#[]⟩, .int .i64 0, .slice none 0 0, .bool false] 71
  generalize hW0 : W.alloc (.cells #[.int .i64 0, .string ⟨#[]⟩, .int .i64 0, .slice none 0 0, .bool false] 71) = W0 at *
  have HW0 := Lib.hid hW0
  have HN := Lib.hid (fun W' (h : RAt w0 W' gr s.1) => number_any h hs)
  have HT := Lib.hid (fun W' (h : RAt w0 W' gr (numR s.1).2) => rtruth_any h)
  have HD := Lib.hid (fun W' A c (hB : Below w0.heap.size w0 W') (hc : (seenM s).2.1.length ≤ c) (hC : Kd.C (Kd.int .u8) w0 A (seenM s).2.1.length (seenM s).2.1) => Decode_any (w := W') (l := (seenM s).2.1) (hG.below hB) (Kd.C_below hC hB) hc hs.num.truth.1 hs.num.truth.2)
  have HK := Lib.hid (fun W' b (h : RAt w0 W' gr ((seenM s).2.1, b)) => take_any (n := ((seenX s).2.1 : Int)) h (by have h1 := decR_le hs.num.truth.1 hs.num.truth.2; have h2 : (seenX s).2.1 = (decR (truthR (numR s.1).2).2.1).2.1 := rfl; have h3 := hs.num.truth.2; exact ⟨by omega, by omega⟩))
  have hsr : seenR s = (⟨seenL s, (seenX s).1, (seenM s).1⟩, (takeR ((seenX s).2.1 : Int) ((seenM s).2.1, (seenM s).2.2 || !((seenX s).2.2 == 0)), seenL s)) := rfl
  have hsl : seenL s = IntKind.i64.wrap (s.2 + (numR s.1).1) := rfl
  have hsm : seenM s = truthR (numR s.1).2 := rfl
  have hsx : seenX s = decR (seenM s).2.1 := rfl
  rw [← hsx] at HD
  rw [← hsm] at HT
  generalize seenR s = R at *
  generalize seenX s = x at *
  generalize seenM s = m at *
  generalize seenL s = la at *
  generalize numR s.1 = r at *
  obtain ⟨ev, xn, xe⟩ := x
  obtain ⟨mb, s2⟩ := m
  obtain ⟨d, s1⟩ := r
  simp only at hsr hsl HD HK HT
  have HL := Lib.hid hsl
  have HR := Lib.hid hsr
  have HA := Lib.hid hA
  have p0 := hA.st.cellp
  have l0 := hA.celll.1
  clear hW0 hS hs hA hsr hsl hsm hsx hG
  go_enter Tryd.func56, Tryd.ntmps56
  go_wp2_with fail
  rw [HW0.out]
  go_upto_region 1 with fail
  go_cut [0] from 7 to 10 (fun t0 wx => t0 = .pointer (some ⟨p, 0, none⟩) ∧ Hid (ASt w0 W gr pb (some p) W.heap.size 71 #[.int .i64 0, .string ⟨#[]⟩, .int .i64 0, .slice none 0 0, .bool false] (s1, la) wx))
  case first =>
    go_region_law (first
      | (go_simp; go_at_call 34; (with_reducible refine (HN.out _ HA.out.drew.st.rd).mono ?_); rintro e5 w5 ⟨rfl, hR5, hO5⟩; have HA5 : Hid (ASt w0 W gr pb (some p) W.heap.size 71 #[.int .i64 0, .string ⟨#[]⟩, .int .i64 0, .slice none 0 0, .bool false] (s1, s.2) w5) := Lib.hid (HA.out.drew.read hR5 hO5); have p5 := HA5.out.st.cellp; have l5 := HA5.out.celll.1; have f5 := HA5.out.celll.2)
      | fail)
    all_goals
      go_wp2_with fail
      go_meet
      refine ⟨rfl, ?_⟩
      rw [HL.out]
      exact Lib.hid (HA5.out.setLast _)
  case rest =>
    obtain ⟨rfl, HA1⟩ := hcut
    clear p0 l0 HN HL HA HW0
    obtain ⟨w1, rfl⟩ : ∃ w1 : World, w1 = wc := ⟨_, rfl⟩
    have p1 := HA1.out.st.cellp
    have l1 := HA1.out.celll.1
    have p1a := (HA1.out.keep #[.int .i64 0, .string ⟨#[]⟩, .int .i64 0, .slice none 0 0, .bool false] 71).drew.st.cellp
    have l1a := (HA1.out.keep #[.int .i64 0, .string ⟨#[]⟩, .int .i64 0, .slice none 0 0, .bool false] 71).drew.celll.1
    go_upto_region 2 with fail
    go_cut [3] from 11 to 14 (fun t3 wx => ∃ b3, t3 = .pointer (some ⟨b3, 0, none⟩) ∧ W.heap.size ≠ b3 ∧ Hid (ASt w0 W gr pb (some p) W.heap.size 71 #[.int .i64 0, .string ⟨#[]⟩, .int .i64 0, .slice none 0 0, .bool false] (s2, la) wx) ∧ Hid (ASt w0 W gr pb (some p) b3 71 #[.int .i64 la, .string ⟨#[]⟩, .int .i64 0, .slice none 0 0, .bool mb] (s2, la) wx))
    case first =>
      go_region_law (first
        | (go_simp; go_at_call 51; (with_reducible refine (HT.out _ HA1.out.drew.st.rd).mono ?_); rintro e5 w5 ⟨rfl, hR5, hO5⟩; have HA5 : Hid (ASt w0 W gr pb (some p) W.heap.size 71 #[.int .i64 0, .string ⟨#[]⟩, .int .i64 0, .slice none 0 0, .bool false] (s2, la) w5) := Lib.hid (HA1.out.drew.read hR5 hO5); have p5 := HA5.out.st.cellp; have l5 := HA5.out.celll.1; have p5a := (HA5.out.keep #[.int .i64 0, .string ⟨#[]⟩, .int .i64 0, .slice none 0 0, .bool false] 71).st.cellp; have l5a := (HA5.out.keep #[.int .i64 0, .string ⟨#[]⟩, .int .i64 0, .slice none 0 0, .bool false] 71).celll.1)
        | (go_simp; go_at_call 51; (with_reducible refine (HT.out _ (HA1.out.keep _ _).drew.st.rd).mono ?_); rintro e5 w5 ⟨rfl, hR5, hO5⟩; have HA5 : Hid (ASt w0 W gr pb (some p) W.heap.size 71 #[.int .i64 0, .string ⟨#[]⟩, .int .i64 0, .slice none 0 0, .bool false] (s2, la) w5) := Lib.hid ((HA1.out.keep _ _).drew.read hR5 hO5); have HZ5 : Hid (ASt w0 W gr pb (some p) w1.heap.size 71 #[.int .i64 0, .string ⟨#[]⟩, .int .i64 0, .slice none 0 0, .bool false] (s2, la) w5) := Lib.hid ((HA1.out.more _ _).drew.read hR5 hO5); have p5 := HA5.out.st.cellp; have l5 := HA5.out.celll.1; have q0 := (HZ5.out.cell 0).trans rfl; have q1 := (HZ5.out.cell 1).trans rfl; have q2 := (HZ5.out.cell 2).trans rfl; have q3 := (HZ5.out.cell 3).trans rfl; have q4 := (HZ5.out.cell 4).trans rfl; have z0 := HZ5.out.free 0; have z1 := HZ5.out.free 1; have z2 := HZ5.out.free 2; have z3 := HZ5.out.free 3; have z4 := HZ5.out.free 4)
        | fail)
      all_goals
        go_wp2_with fail
        go_meet
        first
          | exact ⟨_, rfl, Nat.ne_of_lt HA5.out.lt, Lib.hid (HA5.out.keep _ _), Lib.hid (HA5.out.more _ _)⟩
          | exact ⟨_, rfl, Nat.ne_of_lt HA1.out.lt, Lib.hid (ASt.box5 HA5.out HZ5.out (Nat.ne_of_lt HA1.out.lt)).1, Lib.hid (ASt.box5 HA5.out HZ5.out (Nat.ne_of_lt HA1.out.lt)).2⟩
    case rest =>
      obtain ⟨b3, rfl, hne, HA2, HZ2⟩ := hcut
      clear p1 l1 p1a l1a HT HA1
      obtain ⟨w2, rfl⟩ : ∃ w2 : World, w2 = wc := ⟨_, rfl⟩
      have p2 := HA2.out.st.cellp
      obtain ⟨A, c, g0, _, _, hc, hC⟩ := HA2.out.st.rd.cells
      have HC := Lib.hid hC
      clear hC
      go_wp2_with fail
      refine (HD.out _ A c HA2.out.st.rd.2.1 hc HC.out).mono ?_
      rintro e3 w3 ⟨v, rfl, hv, hB3⟩
      obtain ⟨A5, c5, rfl⟩ := Kd.R_slice hv
      have hA3 := HA2.out.below hB3
      have hZ3 := HZ2.out.below hB3
      have hV3 : k66.R 66 w3 W.heap.size (fun _ => True) (.slice A5 ev.f2.length c5) ev.f2 := Kd.R_lower hv HA2.out.rp.size
      have HA4 := Lib.hid (hA3.keep #[.string ev.f0, .int .i64 ev.f1, .slice A5 ev.f2.length c5] 69)
      have HZ4 := Lib.hid (hZ3.keep #[.string ev.f0, .int .i64 ev.f1, .slice A5 ev.f2.length c5] 69)
      have HY4 := Lib.hid (hA3.more #[.string ev.f0, .int .i64 ev.f1, .slice A5 ev.f2.length c5] 69)
      have HV4 := Lib.hid (Kd.R_alloc hV3 (.cells #[.string ev.f0, .int .i64 ev.f1, .slice A5 ev.f2.length c5] 69))
      have HNE4 := Lib.hid (Nat.ne_of_lt hA3.lt)
      have HNE5 := Lib.hid (Nat.ne_of_lt hZ3.lt)
      obtain ⟨A6, c6, _, g1, f1, _, _⟩ := HA4.out.st.rd.cells
      have g1 : (w3.alloc (.cells #[.string ev.f0, .int .i64 ev.f1, .slice A5 ev.f2.length c5] 69)).cell? ⟨gr, 1, none⟩ = some (.bool s2.2) := g1
      have p4 := HA4.out.st.cellp
      clear hv hB3 hA3 hZ3 hV3 g0 p2 hc HC HD HA2 HZ2
      obtain ⟨mk, hmk⟩ : ∃ mk, (s2.2 || !(xe == 0)) = mk := ⟨_, rfl⟩
      have HMK := Lib.hid hmk
      clear hmk
      go_upto_region 4 with fail
      go_cut [0] from 24 to 34 (fun t0 wx => t0 = .pointer (some ⟨p, 0, none⟩) ∧ Hid (ASt w0 W gr pb (some p) W.heap.size 71 #[.int .i64 0, .string ⟨#[]⟩, .int .i64 0, .slice none 0 0, .bool false] ((s2.1, mk), la) wx) ∧ Hid (ASt w0 W gr pb (some p) b3 71 #[.int .i64 la, .string ⟨#[]⟩, .int .i64 0, .slice none 0 0, .bool mb] ((s2.1, mk), la) wx) ∧ Hid (ASt w0 W gr pb (some p) w3.heap.size 69 #[.string ev.f0, .int .i64 ev.f1, .slice A5 ev.f2.length c5] ((s2.1, mk), la) wx) ∧ Hid (k66.R 66 wx W.heap.size (fun _ => True) (.slice A5 ev.f2.length c5) ev.f2))
      case first =>
        obtain ⟨s2l, bad⟩ := s2
        have g1 : (w3.alloc (.cells #[.string ev.f0, .int .i64 ev.f1, .slice A5 ev.f2.length c5] 69)).cell? ⟨gr, 1, none⟩ = some (.bool bad) := g1
        have hq55 : ∀ q, q ∈ 66 :: k66.E → q ≠ 55 := k66q (by decide)
        have HFIN := Lib.hid (show ∀ mk', (bad || !(xe == 0)) = mk' → Hid (ASt w0 W gr pb (some p) W.heap.size 71 #[.int .i64 0, .string ⟨#[]⟩, .int .i64 0, .slice none 0 0, .bool false] ((s2l, mk), la) ((w3.alloc (.cells #[.string ev.f0, .int .i64 ev.f1, .slice A5 ev.f2.length c5] 69)).setCell ⟨gr, 1, none⟩ (.bool mk')).drew) ∧ Hid (ASt w0 W gr pb (some p) b3 71 #[.int .i64 la, .string ⟨#[]⟩, .int .i64 0, .slice none 0 0, .bool mb] ((s2l, mk), la) ((w3.alloc (.cells #[.string ev.f0, .int .i64 ev.f1, .slice A5 ev.f2.length c5] 69)).setCell ⟨gr, 1, none⟩ (.bool mk')).drew) ∧ Hid (ASt w0 W gr pb (some p) w3.heap.size 69 #[.string ev.f0, .int .i64 ev.f1, .slice A5 ev.f2.length c5] ((s2l, mk), la) ((w3.alloc (.cells #[.string ev.f0, .int .i64 ev.f1, .slice A5 ev.f2.length c5] 69)).setCell ⟨gr, 1, none⟩ (.bool mk')).drew) ∧ Hid (k66.R 66 ((w3.alloc (.cells #[.string ev.f0, .int .i64 ev.f1, .slice A5 ev.f2.length c5] 69)).setCell ⟨gr, 1, none⟩ (.bool mk')).drew W.heap.size (fun _ => True) (.slice A5 ev.f2.length c5) ev.f2) from fun mk' h => by
          have e : mk' = mk := h.symm.trans HMK.out
          subst e
          exact ⟨Lib.hid (HA4.out.mark mk').drew, Lib.hid (HZ4.out.mark mk').drew, Lib.hid (HY4.out.mark mk').drew, Lib.hid (Kd.R_drew (R_rd HV4.out HY4.out.st.rd hq55 (Ro.set 1 _)))⟩)
        cases bad
        · obtain ⟨ne, hne5⟩ : ∃ ne : Bool, (xe != 0) = ne := ⟨_, rfl⟩
          first | go_region_law (fail) | fail
          all_goals
            go_wp2_with fail
            go_meet
            exact ⟨rfl, HFIN.out ne (by rw [← hne5]; rfl)⟩
        · first | go_region_law (fail) | fail
          all_goals
            go_wp2_with fail
            go_meet
            exact ⟨rfl, HFIN.out true rfl⟩
      case rest =>
        obtain ⟨rfl, HA5, HZ5, HY5, HV5⟩ := hcut
        clear g1 f1 p4 HA4 HZ4 HY4 HV4
        obtain ⟨w5, rfl⟩ : ∃ w5 : World, w5 = wc := ⟨_, rfl⟩
        have p5 := HA5.out.st.cellp
        go_wp2_with fail
        refine (HK.out _ mk HA5.out.st.rd).mono ?_
        rintro e7 w7 ⟨A7, c7, rfl, hc7, hC7, hR7, hO7⟩
        have hA7 := HA5.out.read hR7 hO7
        have hZ7 := HZ5.out.read hR7 hO7
        have hY7 := HY5.out.read hR7 hO7
        have hV7 : k66.R 66 w7 W.heap.size (fun _ => True) (.slice A5 ev.f2.length c5) ev.f2 := R_rd HV5.out HA5.out.st.rd (k66q (by decide)) hO7
        have x0 := (hY7.cell 0).trans rfl
        have x1 := (hY7.cell 1).trans rfl
        have x2 := (hY7.cell 2).trans rfl
        have q0 := (hZ7.cell 0).trans rfl
        have q1 := (hZ7.cell 1).trans rfl
        have q2 := (hZ7.cell 2).trans rfl
        have q3 := (hZ7.cell 3).trans rfl
        have q4 := (hZ7.cell 4).trans rfl
        have z1 := hZ7.free 1
        have z2 := hZ7.free 2
        have z3 := hZ7.free 3
        have a0 := (hA7.cell 0).trans rfl
        have a1 := (hA7.cell 1).trans rfl
        have a2 := (hA7.cell 2).trans rfl
        have a3 := (hA7.cell 3).trans rfl
        have a4 := (hA7.cell 4).trans rfl
        have y0 := hA7.free 0
        have y1 := hA7.free 1
        have y2 := hA7.free 2
        have y3 := hA7.free 3
        have y4 := hA7.free 4
        have hZ8 := ((hZ7.set 1 (.string ev.f0)).set 2 (.int .i64 ev.f1)).set 3 (.slice A5 ev.f2.length c5)
        have hA8 := ((hA7.other hZ7 hne 1 (.string ev.f0)).other (hZ7.set 1 _) hne 2 (.int .i64 ev.f1)).other ((hZ7.set 1 _).set 2 _) hne 3 (.slice A5 ev.f2.length c5)
        have hq71 : ∀ q, q ∈ 66 :: k66.E → q ≠ 71 := k66q (by decide)
        have hV8 := Kd.R_set (Kd.R_set (Kd.R_set hV7 hZ7.an hq71 1 (.string ev.f0)) (hZ7.set 1 (.string ev.f0)).an hq71 2 (.int .i64 ev.f1)) ((hZ7.set 1 (.string ev.f0)).set 2 (.int .i64 ev.f1)).an hq71 3 (.slice A5 ev.f2.length c5)
        have hF := ((((hA8.set 0 (.int .i64 la)).set 1 (.string ev.f0)).set 2 (.int .i64 ev.f1)).set 3 (.slice A5 ev.f2.length c5)).set 4 (.bool mb)
        have hV9 := Kd.R_set (Kd.R_set (Kd.R_set (Kd.R_set (Kd.R_set hV8 hA8.an hq71 0 (.int .i64 la)) (hA8.set 0 (.int .i64 la)).an hq71 1 (.string ev.f0)) ((hA8.set 0 (.int .i64 la)).set 1 (.string ev.f0)).an hq71 2 (.int .i64 ev.f1)) (((hA8.set 0 (.int .i64 la)).set 1 (.string ev.f0)).set 2 (.int .i64 ev.f1)).an hq71 3 (.slice A5 ev.f2.length c5)) ((((hA8.set 0 (.int .i64 la)).set 1 (.string ev.f0)).set 2 (.int .i64 ev.f1)).set 3 (.slice A5 ev.f2.length c5)).an hq71 4 (.bool mb)
        have HF := Lib.hid hF
        have HV9 := Lib.hid hV9
        have HNA := Lib.hid (Nat.ne_of_lt HA5.out.lt)
        clear hA7 hZ7 hY7 hV7 hZ8 hA8 hV8 hF hV9 hc7 hC7 hR7 hO7 p5
        go_wp2_with fail
        refine bodyPost_ret (results_cell_row rfl _ _ W.heap.size 71 #[.int .i64 la, .string ev.f0, .int .i64 ev.f1, .slice A5 ev.f2.length c5, .bool mb] (0, 0) _ rfl (HF.out.an.trans rfl) Tryd.underlying71 rfl (by kernel_rfl)) rfl ?_
        rw [HR.out, HMK.out]
        exact ⟨[.int .i64 la, .string ev.f0, .int .i64 ev.f1, .slice A5 ev.f2.length c5, .bool mb], rfl, k71_mkM _ _ _ ⟨la, ev, mb⟩ HV9.out, HF.out.st, HF.out.rp⟩
end Go.Proofs.YtcfgmkmllcfjjaaDoor
