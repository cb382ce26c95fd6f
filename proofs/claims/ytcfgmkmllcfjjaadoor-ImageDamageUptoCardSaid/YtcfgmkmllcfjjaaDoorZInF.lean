import Derived.Test.YtcfgmkmllcfjjaaDoorZInE
set_option linter.unusedVariables false
set_option linter.unusedSimpArgs false
namespace Go.Proofs.YtcfgmkmllcfjjaaDoor
open Go.RowKit Go.Proofs.YtcfgmkmllcfjjaaDoorW.PrintWords Go.Proofs.YtcfgmkmllcfjjaaDoorW.PrintMore PImageForm
def IBox (W : World) (gi : Nat) (m : Img) (v4 v5 v6 : Value) : Prop := W.heap[gi]? = some (.cells #[.int .i64 m.runs, .int .i64 m.made, .int .i64 m.seq, .int .i64 m.now, v4, v5, v6] 28 (0, 0))
structure LdS (w : World) (gr gi : Nat) (s : Rs) (m : Img) (v4 v5 v6 : Value) (W : World) : Prop where
  rd : RAt w W gr s
  gl : w.heap.size ≤ gi
  im : IBox W gi m v4 v5 v6
  r4 : k64.R 64 W w.heap.size (fun _ => True) v4 m.types
  r5 : k57.R 57 W w.heap.size (fun _ => True) v5 m.saved
  r6 : k71.R 71 W w.heap.size (fun _ => True) v6 m.seens
theorem Rp.ro {gr : Nat} {w w1 : World} (h : Rp gr none w w1) : Ro gr w w1 := ⟨h.os, h.tape, h.output, h.size, fun k hk hn => h.block k hk (fun e => e.elim hn (fun e => by cases e))⟩
theorem k64n {t : Nat} (h1 : 64 ≠ t) (h2 : 61 ≠ t) : ∀ q, q ∈ 64 :: k64.E → q ≠ t := by
  intro q hq
  have hE : k64.E = [61] := rfl
  rw [hE] at hq
  simp only [List.mem_cons, List.not_mem_nil, or_false] at hq
  rcases hq with rfl | rfl <;> assumption
theorem k57n {t : Nat} (h1 : 57 ≠ t) : ∀ q, q ∈ 57 :: k57.E → q ≠ t := by
  intro q hq
  have hE : k57.E = [] := rfl
  rw [hE, List.mem_singleton] at hq
  subst hq
  exact h1
theorem k71n {t : Nat} (h1 : 71 ≠ t) (h2 : 66 ≠ t) : ∀ q, q ∈ 71 :: k71.E → q ≠ t := by
  intro q hq
  have hE : k71.E = [66] := rfl
  rw [hE] at hq
  simp only [List.mem_cons, List.not_mem_nil, or_false] at hq
  rcases hq with rfl | rfl <;> assumption
namespace LdS
variable {w W W1 : World} {gr gi : Nat} {s r : Rs} {m : Img} {v4 v5 v6 : Value}
theorem gn (h : LdS w gr gi s m v4 v5 v6 W) : gi ≠ gr := h.rd.neq h.im (by decide)
theorem read (h : LdS w gr gi s m v4 v5 v6 W) (hR : RAt w W1 gr r) (hO : Ro gr W W1) : LdS w gr gi r m v4 v5 v6 W1 :=
  ⟨hR, h.gl, Ro.blk hO h.im h.gn, R_rd h.r4 h.rd (k64n (by decide) (by decide)) hO, R_rd h.r5 h.rd (k57n (by decide)) hO, R_rd h.r6 h.rd (k71n (by decide) (by decide)) hO⟩
theorem below (h : LdS w gr gi s m v4 v5 v6 W) (hB : Below W.heap.size W W1) : LdS w gr gi s m v4 v5 v6 W1 := h.read (h.rd.below hB) (Ro.of_below hB)
theorem rows (h : LdS w gr gi s m v4 v5 v6 W) (i : Nat) (v : Value) : RAt w (W.setCell ⟨gi, i, none⟩ v) gr s ∧ k64.R 64 (W.setCell ⟨gi, i, none⟩ v) w.heap.size (fun _ => True) v4 m.types ∧ k57.R 57 (W.setCell ⟨gi, i, none⟩ v) w.heap.size (fun _ => True) v5 m.saved ∧ k71.R 71 (W.setCell ⟨gi, i, none⟩ v) w.heap.size (fun _ => True) v6 m.seens :=
  ⟨h.rd.far h.gl h.gn v, Kd.R_set h.r4 h.im (k64n (by decide) (by decide)) i v, Kd.R_set h.r5 h.im (k57n (by decide)) i v, Kd.R_set h.r6 h.im (k71n (by decide) (by decide)) i v⟩
theorem set0 (h : LdS w gr gi s m v4 v5 v6 W) (n : Int) : LdS w gr gi s { m with runs := n } v4 v5 v6 (W.setCell ⟨gi, 0, none⟩ (.int .i64 n)) :=
  let r := h.rows 0 (.int .i64 n); ⟨r.1, h.gl, (blk_set h.im 0 _).trans rfl, r.2.1, r.2.2.1, r.2.2.2⟩
theorem set1 (h : LdS w gr gi s m v4 v5 v6 W) (n : Int) : LdS w gr gi s { m with made := n } v4 v5 v6 (W.setCell ⟨gi, 1, none⟩ (.int .i64 n)) :=
  let r := h.rows 1 (.int .i64 n); ⟨r.1, h.gl, (blk_set h.im 1 _).trans rfl, r.2.1, r.2.2.1, r.2.2.2⟩
theorem set2 (h : LdS w gr gi s m v4 v5 v6 W) (n : Int) : LdS w gr gi s { m with seq := n } v4 v5 v6 (W.setCell ⟨gi, 2, none⟩ (.int .i64 n)) :=
  let r := h.rows 2 (.int .i64 n); ⟨r.1, h.gl, (blk_set h.im 2 _).trans rfl, r.2.1, r.2.2.1, r.2.2.2⟩
theorem set3 (h : LdS w gr gi s m v4 v5 v6 W) (n : Int) : LdS w gr gi s { m with now := n } v4 v5 v6 (W.setCell ⟨gi, 3, none⟩ (.int .i64 n)) :=
  let r := h.rows 3 (.int .i64 n); ⟨r.1, h.gl, (blk_set h.im 3 _).trans rfl, r.2.1, r.2.2.1, r.2.2.2⟩
theorem set4 {v : Value} {xs : List S64} (h : LdS w gr gi s m v4 v5 v6 W) (hv : k64.R 64 W w.heap.size (fun _ => True) v xs) : LdS w gr gi s { m with types := xs } v v5 v6 (W.setCell ⟨gi, 4, none⟩ v) :=
  let r := h.rows 4 v; ⟨r.1, h.gl, (blk_set h.im 4 _).trans rfl, Kd.R_set hv h.im (k64n (by decide) (by decide)) 4 v, r.2.2.1, r.2.2.2⟩
theorem set5 {v : Value} {xs : List S57} (h : LdS w gr gi s m v4 v5 v6 W) (hv : k57.R 57 W w.heap.size (fun _ => True) v xs) : LdS w gr gi s { m with saved := xs } v4 v v6 (W.setCell ⟨gi, 5, none⟩ v) :=
  let r := h.rows 5 v; ⟨r.1, h.gl, (blk_set h.im 5 _).trans rfl, r.2.1, Kd.R_set hv h.im (k57n (by decide)) 5 v, r.2.2.2⟩
theorem set6 {v : Value} {xs : List S71} (h : LdS w gr gi s m v4 v5 v6 W) (hv : k71.R 71 W w.heap.size (fun _ => True) v xs) : LdS w gr gi s { m with seens := xs } v4 v5 v (W.setCell ⟨gi, 6, none⟩ v) :=
  let r := h.rows 6 v; ⟨r.1, h.gl, (blk_set h.im 6 _).trans rfl, r.2.1, r.2.2.1, Kd.R_set hv h.im (k71n (by decide) (by decide)) 6 v⟩
theorem cell (h : LdS w gr gi s m v4 v5 v6 W) (i : Nat) : W.cell? ⟨gi, i, none⟩ = (#[Value.int .i64 m.runs, .int .i64 m.made, .int .i64 m.seq, .int .i64 m.now, v4, v5, v6] : Array Value)[i]? := blk_cell h.im i
theorem free (h : LdS w gr gi s m v4 v5 v6 W) (i : Nat) : W.frozen? ⟨gi, i, none⟩ = false := blk_frozen h.im i
end LdS
def Rg (gr gi : Nat) (w w' : World) : Prop := Only (fun k => k = gr ∨ k = gi) w w'
namespace Rg
variable {gr gi : Nat} {w w1 w2 : World}
theorem refl : Rg gr gi w w := Only.refl _ _
theorem trans (h : Rg gr gi w w1) (k : Rg gr gi w1 w2) : Rg gr gi w w2 := Only.trans h k (fun _ _ hn h2 => hn h2)
theorem of_ro (h : Ro gr w w1) : Rg gr gi w w1 := ⟨h.os, h.tape, h.output, h.size, fun k hk hn => h.block k hk (fun e => hn (.inl e))⟩
theorem of_below (h : Below w.heap.size w w1) : Rg gr gi w w1 := Only.of_below h
theorem set (h : Rg gr gi w w1) (i : Nat) (v : Value) : Rg gr gi w (w1.setCell ⟨gi, i, none⟩ v) := h.trans (Only.setCell _ _ (.inr rfl))
theorem of_rp {pl : Option Nat} (hB : Below w.heap.size w w1) (hp : ∀ p, pl = some p → w.heap.size ≤ p) (h : Rp gr pl w1 w2) : Rg gr gi w w2 :=
  ⟨h.os.trans hB.os, h.tape.trans hB.tape, h.output.trans hB.output, Nat.le_trans hB.size h.size, fun k hk hn => (h.block k (Nat.lt_of_lt_of_le hk hB.size) (fun e => e.elim (fun e => hn (.inl e)) (fun e => by have := hp k e.symm; omega))).trans (hB.block k hk)⟩
end Rg
def LPost (w W : World) (gr gi : Nat) (s : Rs) (m : Img) (e : Ending) (w' : World) : Prop := e = .returned (.tuple #[]) ∧ (∃ v4 v5 v6, LdS w gr gi s m v4 v5 v6 w') ∧ Rg gr gi W w'
def magicS : ByteArray := ⟨#[114, 102, 114, 110]⟩
def ldMagic (s : Rs) : Rs := if strOfNums (takenR 4 s) = magicS then takeR 4 s else ((takeR 4 s).1, true)
set_option maxRecDepth 100000 in
set_option maxHeartbeats 4000000 in
theorem readMagic_any {w W : World} {gr gi : Nat} {s : Rs} {m : Img} {v4 v5 v6 : Value} (h : LdS w gr gi s m v4 v5 v6 W) :
    Calls Tryd.prog 21 #[.pointer (some ⟨gr, 0, none⟩), .pointer (some ⟨gi, 0, none⟩)] W (LPost w W gr gi (ldMagic s) m) := by
  have HT := Lib.hid (take_any h.rd (n := 4) ⟨by decide, by decide⟩)
  have HH := Lib.hid h
  have HCS := Lib.hid (show ∀ (W : World) A c, Below w.heap.size w W → Kd.C (Kd.int .u8) w A (takenR 4 s).length (takenR 4 s) → (convert 29 9 (.slice A (takenR 4 s).length c)).run Tryd.prog W = .ok (.string (strOfNums (takenR 4 s))) W from fun W A c hB hC => Kd.C_string (P := Tryd.prog) Tryd.underlying29 Tryd.underlying5 Tryd.underlying9 (Kd.C_below hC hB))
  have hm : ldMagic s = if strOfNums (takenR 4 s) = magicS then takeR 4 s else ((takeR 4 s).1, true) := rfl
  by_cases hd : strOfNums (takenR 4 s) = magicS
  · rw [if_pos hd] at hm
    rw [hd] at HCS
    rw [hm]
    unfold magicS at HCS
    clear hm hd h
    go_enter Tryd.func21, Tryd.ntmps21
    go_wp2_with fail
    refine HT.out.mono ?_
    rintro e1 w1 ⟨A1, c1, rfl, hc1, hC1, hR1, hO1⟩
    have hcs := HCS.out w1 A1 c1 hR1.2.1 hC1
    have HR1 := Lib.hid hR1
    have HO1 := Lib.hid hO1
    clear hR1 hO1 hC1
    go_wp2_with fail
    go_end0
    exact ⟨rfl, ⟨v4, v5, v6, HH.out.read HR1.out HO1.out⟩, Rg.of_ro HO1.out⟩
  · rw [if_neg hd] at hm
    rw [hm]
    have hb2 : ((strOfNums (takenR 4 s)).toList == [114, 102, 114, 110]) = false := by
      rw [beq_eq_false_iff_ne]
      intro h2
      rw [ByteArray.toList_eq] at h2
      exact hd (ByteArray.ext (Array.ext' h2))
    generalize strOfNums (takenR 4 s) = tx at *
    clear hm h
    go_enter Tryd.func21, Tryd.ntmps21
    go_wp2_with fail
    refine HT.out.mono ?_
    rintro e1 w1 ⟨A1, c1, rfl, hc1, hC1, hR1, hO1⟩
    have hcs := HCS.out w1 A1 c1 hR1.2.1 hC1
    have HR1 := Lib.hid hR1
    have HO1 := Lib.hid hO1
    have hc1' := hR1.cells.choose_spec.choose_spec.2.1
    have hf1' := hR1.cells.choose_spec.choose_spec.2.2.1
    clear hR1 hO1 hC1
    go_wp2_with fail
    trace_state
    go_end0
    exact ⟨rfl, ⟨v4, v5, v6, HH.out.read (HR1.out.mark true) (HO1.out.trans (Ro.set 1 _))⟩, Rg.of_ro (HO1.out.trans (Ro.set 1 _))⟩
def ldNums (s : Rs) (m : Img) : Rs × Img :=
  ((numR (numR (numR (numR s).2).2).2).2, { m with runs := (numR s).1, made := (numR (numR s).2).1, seq := (numR (numR (numR s).2).2).1, now := (numR (numR (numR (numR s).2).2).2).1 })
set_option maxHeartbeats 4000000 in
theorem readNumbers_any {w W : World} {gr gi : Nat} {s : Rs} {m : Img} {v4 v5 v6 : Value} (h : LdS w gr gi s m v4 v5 v6 W) (hs : Rok s) :
    Calls Tryd.prog 23 #[.pointer (some ⟨gr, 0, none⟩), .pointer (some ⟨gi, 0, none⟩)] W (LPost w W gr gi (ldNums s m).1 (ldNums s m).2) := by
  have HN1 := Lib.hid (fun W' (h : RAt w W' gr s) => number_any h hs)
  have HN2 := Lib.hid (fun W' (h : RAt w W' gr (numR s).2) => number_any h hs.num)
  have HN3 := Lib.hid (fun W' (h : RAt w W' gr (numR (numR s).2).2) => number_any h hs.num.num)
  have HN4 := Lib.hid (fun W' (h : RAt w W' gr (numR (numR (numR s).2).2).2) => number_any h hs.num.num.num)
  unfold ldNums
  generalize numR s = r at *
  obtain ⟨n1, s1⟩ := r
  simp only at HN2 HN3 HN4 ⊢
  generalize numR s1 = r at *
  obtain ⟨n2, s2⟩ := r
  simp only at HN3 HN4 ⊢
  generalize numR s2 = r at *
  obtain ⟨n3, s3⟩ := r
  simp only at HN4 ⊢
  generalize numR s3 = r at *
  obtain ⟨n4, s4⟩ := r
  simp only
  have HH := Lib.hid h
  clear h
  go_enter Tryd.func23, Tryd.ntmps23
  go_wp2_with fail
  refine (HN1.out _ HH.out.rd).mono ?_
  rintro e1 w1 ⟨rfl, hR1, hO1⟩
  have H1 := Lib.hid (HH.out.read hR1 hO1)
  have G1 := Lib.hid (Rg.of_ro (gi := gi) hO1)
  clear hR1 hO1
  go_wp2_with fail
  refine (HN2.out _ H1.out.rd).mono ?_
  rintro e2 w2 ⟨rfl, hR2, hO2⟩
  have h2 := H1.out.read hR2 hO2
  have c0 := (h2.cell 0).trans rfl
  have c1 := (h2.cell 1).trans rfl
  have f0 := h2.free 0
  have f1 := h2.free 1
  have H3 := Lib.hid ((h2.set0 n1).set1 n2)
  have G3 := Lib.hid (((G1.out.trans (Rg.of_ro hO2)).set 0 (.int .i64 n1)).set 1 (.int .i64 n2))
  clear hR2 hO2 h2
  go_wp2_with fail
  refine (HN3.out _ H3.out.rd).mono ?_
  rintro e3 w3 ⟨rfl, hR3, hO3⟩
  have H4 := Lib.hid (H3.out.read hR3 hO3)
  have G4 := Lib.hid (G3.out.trans (Rg.of_ro hO3))
  clear hR3 hO3 c0 c1 f0 f1
  go_wp2_with fail
  refine (HN4.out _ H4.out.rd).mono ?_
  rintro e4 w4 ⟨rfl, hR4, hO4⟩
  have h5 := H4.out.read hR4 hO4
  have c2 := (h5.cell 2).trans rfl
  have c3 := (h5.cell 3).trans rfl
  have f2 := h5.free 2
  have f3 := h5.free 3
  have H5 := Lib.hid ((h5.set2 n3).set3 n4)
  have G5 := Lib.hid (((G4.out.trans (Rg.of_ro hO4)).set 2 (.int .i64 n3)).set 3 (.int .i64 n4))
  clear hR4 hO4 h5
  go_wp2_with fail
  go_end0
  exact ⟨rfl, ⟨v4, v5, v6, H5.out⟩, G5.out⟩
theorem LdS.st {w W : World} {gr gi : Nat} {s : Rs} {m : Img} {v4 v5 v6 : Value} (h : LdS w gr gi s m v4 v5 v6 W) : RSt w gr W.heap.size none (s, 0) (W.alloc (.cells #[.pointer (some ⟨gr, 0, none⟩)] 54)) :=
  ⟨h.rd.below (below_new W _), blk_new W _, (fun p hp => by cases hp), (fun p hp => by cases hp)⟩
set_option maxRecDepth 100000 in
set_option maxHeartbeats 4000000 in
theorem readTypes_any {w W : World} {gr gi : Nat} {s : Rs} {m : Img} {v4 v5 v6 : Value} (h : LdS w gr gi s m v4 v5 v6 W) (hs : Rok s) (hlen : s.1.length ≤ 1000000000000) :
    Calls Tryd.prog 25 #[.pointer (some ⟨gr, 0, none⟩), .pointer (some ⟨gi, 0, none⟩)] W (LPost w W gr gi (getR typeR (s, 0)).2.1 { m with types := (getR typeR (s, 0)).1 }) := by
  have HG := Lib.hid (fun W' pb (h : RSt w gr pb none (s, 0) W') => getTypes_any typeR gr pb h hs hlen typeR_ok (fun s' W'' h1 h3 h2 => rType_any h2 h1 h3))
  generalize getR typeR (s, 0) = r at *
  obtain ⟨xs, s1, z1⟩ := r
  have HST := Lib.hid h.st
  have HK := Lib.hid (h.below (below_new W (.cells #[.pointer (some ⟨gr, 0, none⟩)] 54)))
  have p0 := h.st.cellp
  have hmf : ∀ fn first cap w, (Instr.makeFunc fn first cap).run Tryd.prog w = .ok (.func fn first cap) w := fun _ _ _ _ => rfl
  clear h hs
  go_enter Tryd.func25, Tryd.ntmps25
  go_wp2_with fail
  skip
  refine (HG.out _ _ HST.out).mono ?_
  rintro e1 w1 ⟨v, rfl, hv, hS1, hO1⟩
  obtain ⟨A, c, rfl⟩ := Kd.R_slice hv
  have h1 := HK.out.read hS1.rd hO1.ro
  have c4 := (h1.cell 4).trans rfl
  have f4 := h1.free 4
  have H1 := Lib.hid (h1.set4 (Kd.R_lower hv HK.out.rd.2.1.size))
  have G1 := Lib.hid ((Rg.of_rp (gi := gi) (below_new W (.cells #[.pointer (some ⟨gr, 0, none⟩)] 54)) (fun p hp => by cases hp) hO1).set 4 (.slice A xs.length c))
  clear hv hS1 hO1 h1
  go_wp2_with fail
  go_end0
  exact ⟨rfl, ⟨_, _, _, H1.out⟩, G1.out⟩
set_option maxRecDepth 100000 in
set_option maxHeartbeats 4000000 in
theorem readQueries_any {w W : World} {gr gi : Nat} {s : Rs} {m : Img} {v4 v5 v6 : Value} (h : LdS w gr gi s m v4 v5 v6 W) (hs : Rok s) (hlen : s.1.length ≤ 1000000000000) :
    Calls Tryd.prog 27 #[.pointer (some ⟨gr, 0, none⟩), .pointer (some ⟨gi, 0, none⟩)] W (LPost w W gr gi (getR savedR (s, 0)).2.1 { m with saved := (getR savedR (s, 0)).1 }) := by
  have HG := Lib.hid (fun W' pb (h : RSt w gr pb none (s, 0) W') => getSaved_any savedR gr pb h hs hlen savedR_ok (fun s' W'' h1 _ h2 => rSaved_any h2 h1))
  generalize getR savedR (s, 0) = r at *
  obtain ⟨xs, s1, z1⟩ := r
  have HST := Lib.hid h.st
  have HK := Lib.hid (h.below (below_new W (.cells #[.pointer (some ⟨gr, 0, none⟩)] 54)))
  have p0 := h.st.cellp
  have hmf : ∀ fn first cap w, (Instr.makeFunc fn first cap).run Tryd.prog w = .ok (.func fn first cap) w := fun _ _ _ _ => rfl
  clear h hs
  go_enter Tryd.func27, Tryd.ntmps27
  go_wp2_with fail
  skip
  refine (HG.out _ _ HST.out).mono ?_
  rintro e1 w1 ⟨v, rfl, hv, hS1, hO1⟩
  obtain ⟨A, c, rfl⟩ := Kd.R_slice hv
  have h1 := HK.out.read hS1.rd hO1.ro
  have c4 := (h1.cell 5).trans rfl
  have f4 := h1.free 5
  have H1 := Lib.hid (h1.set5 (Kd.R_lower hv HK.out.rd.2.1.size))
  have G1 := Lib.hid ((Rg.of_rp (gi := gi) (below_new W (.cells #[.pointer (some ⟨gr, 0, none⟩)] 54)) (fun p hp => by cases hp) hO1).set 5 (.slice A xs.length c))
  clear hv hS1 hO1 h1
  go_wp2_with fail
  go_end0
  exact ⟨rfl, ⟨_, _, _, H1.out⟩, G1.out⟩
theorem LdS.stl {w W : World} {gr gi : Nat} {s : Rs} {m : Img} {v4 v5 v6 : Value} (h : LdS w gr gi s m v4 v5 v6 W) : RSt w gr W.heap.size (some (W.heap.size + 1)) (s, 0) ((W.alloc (.cells #[.pointer (some ⟨gr, 0, none⟩)] 54)).alloc (.cells #[.int .i64 0] 2)) := by
  have hb := below_new (W.alloc (.cells #[.pointer (some ⟨gr, 0, none⟩)] 54)) (.cells #[.int .i64 0] 2)
  refine ⟨(h.rd.below (below_new W _)).below hb, blk_below (blk_new W _) hb, ?_, ?_⟩
  · intro p hp
    injection hp with hp
    subst hp
    have := blk_new (W.alloc (.cells #[.pointer (some ⟨gr, 0, none⟩)] 54)) (.cells #[.int .i64 0] 2)
    rw [show (W.alloc (.cells #[.pointer (some ⟨gr, 0, none⟩)] 54)).heap.size = W.heap.size + 1 by simp] at this
    exact this
  · intro p hp
    injection hp with hp
    subst hp
    have := h.rd.2.1.size
    omega
theorem LdS.rp {w W W1 : World} {gr gi p pb : Nat} {s r : Rs} {s1 : Rl} {m : Img} {v4 v5 v6 : Value} (h : LdS w gr gi s m v4 v5 v6 W) (hS : RSt w gr pb (some p) s1 W) (hR : RAt w W1 gr r) (hO : Rp gr (some p) W W1) (hp : gi ≠ p) : LdS w gr gi r m v4 v5 v6 W1 :=
  ⟨hR, h.gl, hO.blk h.im h.gn (fun e => by injection e with e; exact hp e), R_rp h.r4 hS k64q hO, R_rp h.r5 hS k57q hO, R_rp h.r6 hS k71q hO⟩
set_option maxRecDepth 100000 in
set_option maxHeartbeats 4000000 in
theorem readEvents_any {w W : World} {gr gi : Nat} {s : Rs} {m : Img} {v4 v5 v6 : Value} (hGW : GW w) (h : LdS w gr gi s m v4 v5 v6 W) (hs : Rok s) (hlen : s.1.length ≤ 1000000000000) :
    Calls Tryd.prog 29 #[.pointer (some ⟨gr, 0, none⟩), .pointer (some ⟨gi, 0, none⟩)] W (LPost w W gr gi (getR seenR (s, 0)).2.1 { m with seens := (getR seenR (s, 0)).1 }) := by
  have HG := Lib.hid (fun W' pb p (h : RSt w gr pb (some p) (s, 0) W') => getSeens_any seenR gr pb p h hs hlen seenR_ok (fun s' W'' h1 _ h2 => rSeen_any hGW h2 h1))
  generalize getR seenR (s, 0) = r at *
  obtain ⟨xs, s1, z1⟩ := r
  have HST := Lib.hid h.stl
  have HK := Lib.hid ((h.below (below_new W (.cells #[.pointer (some ⟨gr, 0, none⟩)] 54))).below (below_new _ (.cells #[.int .i64 0] 2)))
  have HNE := Lib.hid (show gi ≠ W.heap.size + 1 by have := blk_lt' h.im; omega)
  have p0 := h.stl.cellp
  have hmf : ∀ fn first cap w, (Instr.makeFunc fn first cap).run Tryd.prog w = .ok (.func fn first cap) w := fun _ _ _ _ => rfl
  clear h hs
  go_enter Tryd.func29, Tryd.ntmps29
  go_wp2_with fail
  refine (HG.out _ _ _ HST.out).mono ?_
  rintro e1 w1 ⟨v, rfl, hv, hS1, hO1⟩
  obtain ⟨A, c, rfl⟩ := Kd.R_slice hv
  have h1 := LdS.rp HK.out HST.out hS1.rd hO1 HNE.out
  have c4 := (h1.cell 6).trans rfl
  have f4 := h1.free 6
  have H1 := Lib.hid (h1.set6 (Kd.R_lower hv HK.out.rd.2.1.size))
  have G1 := Lib.hid ((Rg.of_rp (gi := gi) (below_step (below_new W (.cells #[.pointer (some ⟨gr, 0, none⟩)] 54)) (below_new _ (.cells #[.int .i64 0] 2))) (fun p hp => by injection hp with hp; omega) hO1).set 6 (.slice A xs.length c))
  clear hv hS1 hO1 h1
  go_wp2_with fail
  go_end0
  exact ⟨rfl, ⟨_, _, _, H1.out⟩, G1.out⟩
end Go.Proofs.YtcfgmkmllcfjjaaDoor
