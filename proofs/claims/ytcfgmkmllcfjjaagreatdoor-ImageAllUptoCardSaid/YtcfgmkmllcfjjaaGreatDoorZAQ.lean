import Derived.Test.YtcfgmkmllcfjjaaGreatDoorZAP
set_option linter.unusedVariables false
set_option linter.unusedSimpArgs false
namespace Go.Proofs.YtcfgmkmllcfjjaaGreatDoor
open Go.RowKit Go.Proofs.YtcfgmkmllcfjjaaGreatDoorW.PrintWords Go.Proofs.YtcfgmkmllcfjjaaGreatDoorW.PrintMore PImageAll
def IBox (W : World) (gi : Nat) (m : Img) (v4 v5 v6 : Value) : Prop := W.heap[gi]? = some (.cells #[.int .i64 m.runs, .int .i64 m.made, .int .i64 m.seq, .int .i64 m.now, v4, v5, v6] 31 (0, 0))
structure LdS (w : World) (gr gi : Nat) (s : Rs) (m : Img) (v4 v5 v6 : Value) (W : World) : Prop where
  rd : RAt w W gr s
  gl : w.heap.size ≤ gi
  im : IBox W gi m v4 v5 v6
  r4 : k56.R 56 W w.heap.size (fun _ => True) v4 m.types
  r5 : k60.R 60 W w.heap.size (fun _ => True) v5 m.saved
  r6 : k65.R 65 W w.heap.size (fun _ => True) v6 m.seens
theorem Rp.ro {gr : Nat} {w w1 : World} (h : Rp gr none w w1) : Ro gr w w1 := ⟨h.os, h.tape, h.output, h.size, fun k hk hn => h.block k hk (fun e => e.elim hn (fun e => by cases e))⟩
theorem k56n {t : Nat} (h1 : 56 ≠ t) (h2 : 58 ≠ t) : ∀ q, q ∈ 56 :: k56.E → q ≠ t := by
  intro q hq
  have hE : k56.E = [58] := rfl
  rw [hE] at hq
  simp only [List.mem_cons, List.not_mem_nil, or_false] at hq
  rcases hq with rfl | rfl <;> assumption
theorem k60n {t : Nat} (h1 : 60 ≠ t) : ∀ q, q ∈ 60 :: k60.E → q ≠ t := by
  intro q hq
  have hE : k60.E = [] := rfl
  rw [hE, List.mem_singleton] at hq
  subst hq
  exact h1
theorem k65n {t : Nat} (h1 : 65 ≠ t) (h2 : 67 ≠ t) : ∀ q, q ∈ 65 :: k65.E → q ≠ t := by
  intro q hq
  have hE : k65.E = [67] := rfl
  rw [hE] at hq
  simp only [List.mem_cons, List.not_mem_nil, or_false] at hq
  rcases hq with rfl | rfl <;> assumption
namespace LdS
variable {w W W1 : World} {gr gi : Nat} {s r : Rs} {m : Img} {v4 v5 v6 : Value}
theorem gn (h : LdS w gr gi s m v4 v5 v6 W) : gi ≠ gr := h.rd.neq h.im (by decide)
theorem read (h : LdS w gr gi s m v4 v5 v6 W) (hR : RAt w W1 gr r) (hO : Ro gr W W1) : LdS w gr gi r m v4 v5 v6 W1 :=
  ⟨hR, h.gl, Ro.blk hO h.im h.gn, R_rd h.r4 h.rd (k56n (by decide) (by decide)) hO, R_rd h.r5 h.rd (k60n (by decide)) hO, R_rd h.r6 h.rd (k65n (by decide) (by decide)) hO⟩
theorem below (h : LdS w gr gi s m v4 v5 v6 W) (hB : Below W.heap.size W W1) : LdS w gr gi s m v4 v5 v6 W1 := h.read (h.rd.below hB) (Ro.of_below hB)
theorem rows (h : LdS w gr gi s m v4 v5 v6 W) (i : Nat) (v : Value) : RAt w (W.setCell ⟨gi, i, none⟩ v) gr s ∧ k56.R 56 (W.setCell ⟨gi, i, none⟩ v) w.heap.size (fun _ => True) v4 m.types ∧ k60.R 60 (W.setCell ⟨gi, i, none⟩ v) w.heap.size (fun _ => True) v5 m.saved ∧ k65.R 65 (W.setCell ⟨gi, i, none⟩ v) w.heap.size (fun _ => True) v6 m.seens :=
  ⟨h.rd.far h.gl h.gn v, Kd.R_set h.r4 h.im (k56n (by decide) (by decide)) i v, Kd.R_set h.r5 h.im (k60n (by decide)) i v, Kd.R_set h.r6 h.im (k65n (by decide) (by decide)) i v⟩
theorem set0 (h : LdS w gr gi s m v4 v5 v6 W) (n : Int) : LdS w gr gi s { m with runs := n } v4 v5 v6 (W.setCell ⟨gi, 0, none⟩ (.int .i64 n)) :=
  let r := h.rows 0 (.int .i64 n); ⟨r.1, h.gl, (blk_set h.im 0 _).trans rfl, r.2.1, r.2.2.1, r.2.2.2⟩
theorem set1 (h : LdS w gr gi s m v4 v5 v6 W) (n : Int) : LdS w gr gi s { m with made := n } v4 v5 v6 (W.setCell ⟨gi, 1, none⟩ (.int .i64 n)) :=
  let r := h.rows 1 (.int .i64 n); ⟨r.1, h.gl, (blk_set h.im 1 _).trans rfl, r.2.1, r.2.2.1, r.2.2.2⟩
theorem set2 (h : LdS w gr gi s m v4 v5 v6 W) (n : Int) : LdS w gr gi s { m with seq := n } v4 v5 v6 (W.setCell ⟨gi, 2, none⟩ (.int .i64 n)) :=
  let r := h.rows 2 (.int .i64 n); ⟨r.1, h.gl, (blk_set h.im 2 _).trans rfl, r.2.1, r.2.2.1, r.2.2.2⟩
theorem set3 (h : LdS w gr gi s m v4 v5 v6 W) (n : Int) : LdS w gr gi s { m with now := n } v4 v5 v6 (W.setCell ⟨gi, 3, none⟩ (.int .i64 n)) :=
  let r := h.rows 3 (.int .i64 n); ⟨r.1, h.gl, (blk_set h.im 3 _).trans rfl, r.2.1, r.2.2.1, r.2.2.2⟩
theorem set4 {v : Value} {xs : List S56} (h : LdS w gr gi s m v4 v5 v6 W) (hv : k56.R 56 W w.heap.size (fun _ => True) v xs) : LdS w gr gi s { m with types := xs } v v5 v6 (W.setCell ⟨gi, 4, none⟩ v) :=
  let r := h.rows 4 v; ⟨r.1, h.gl, (blk_set h.im 4 _).trans rfl, Kd.R_set hv h.im (k56n (by decide) (by decide)) 4 v, r.2.2.1, r.2.2.2⟩
theorem set5 {v : Value} {xs : List S60} (h : LdS w gr gi s m v4 v5 v6 W) (hv : k60.R 60 W w.heap.size (fun _ => True) v xs) : LdS w gr gi s { m with saved := xs } v4 v v6 (W.setCell ⟨gi, 5, none⟩ v) :=
  let r := h.rows 5 v; ⟨r.1, h.gl, (blk_set h.im 5 _).trans rfl, r.2.1, Kd.R_set hv h.im (k60n (by decide)) 5 v, r.2.2.2⟩
theorem set6 {v : Value} {xs : List S65} (h : LdS w gr gi s m v4 v5 v6 W) (hv : k65.R 65 W w.heap.size (fun _ => True) v xs) : LdS w gr gi s { m with seens := xs } v4 v5 v (W.setCell ⟨gi, 6, none⟩ v) :=
  let r := h.rows 6 v; ⟨r.1, h.gl, (blk_set h.im 6 _).trans rfl, r.2.1, r.2.2.1, Kd.R_set hv h.im (k65n (by decide) (by decide)) 6 v⟩
theorem cell (h : LdS w gr gi s m v4 v5 v6 W) (i : Nat) : W.cell? ⟨gi, i, none⟩ = (#[Value.int .i64 m.runs, .int .i64 m.made, .int .i64 m.seq, .int .i64 m.now, v4, v5, v6] : Array Value)[i]? := blk_cell h.im i
theorem free (h : LdS w gr gi s m v4 v5 v6 W) (i : Nat) : W.frozen? ⟨gi, i, none⟩ = false := blk_frozen h.im i
end LdS
def Rg (gr gi : Nat) (w w' : World) : Prop := Only (fun k => k = gr ∨ k = gi) w w'
namespace Rg
variable {gr gi : Nat} {w w1 w2 : World}
theorem refl : Rg gr gi w w := Only.refl _ _
theorem trans (h : Rg gr gi w w1) (k : Rg gr gi w1 w2) : Rg gr gi w w2 := Only.trans h k (fun _ _ hn h2 => hn h2)
theorem of_ro (h : Ro gr w w1) : Rg gr gi w w1 := ⟨h.os, h.tape, h.output, h.size, fun k hk hn => h.block k hk (fun e => hn (.inl e))⟩
theorem of_below (h : Below w.heap.size w w1) : Rg gr gi w w1 := Only.of_below h
theorem set (h : Rg gr gi w w1) (i : Nat) (v : Value) : Rg gr gi w (w1.setCell ⟨gi, i, none⟩ v) := h.trans (Only.setCell _ _ (.inr rfl))
theorem of_rp {pl : Option Nat} (hB : Below w.heap.size w w1) (hp : ∀ p, pl = some p → w.heap.size ≤ p) (h : Rp gr pl w1 w2) : Rg gr gi w w2 :=
  ⟨h.os.trans hB.os, h.tape.trans hB.tape, h.output.trans hB.output, Nat.le_trans hB.size h.size, fun k hk hn => (h.block k (Nat.lt_of_lt_of_le hk hB.size) (fun e => e.elim (fun e => hn (.inl e)) (fun e => by have := hp k e.symm; omega))).trans (hB.block k hk)⟩
end Rg
def LPost (w W : World) (gr gi : Nat) (s : Rs) (m : Img) (e : Ending) (w' : World) : Prop := e = .returned (.tuple #[]) ∧ (∃ v4 v5 v6, LdS w gr gi s m v4 v5 v6 w') ∧ Rg gr gi W w'
def magicS : ByteArray := ⟨#[114, 102, 114, 110]⟩
def ldMagic (s : Rs) : Rs := if strOfNums (takenR 4 s) = magicS then takeR 4 s else ((takeR 4 s).1, true)
set_option maxRecDepth 100000 in
set_option maxHeartbeats 4000000 in
theorem readMagic_any {w W : World} {gr gi : Nat} {s : Rs} {m : Img} {v4 v5 v6 : Value} (h : LdS w gr gi s m v4 v5 v6 W) :
    Calls Tryz.prog 44 #[.pointer (some ⟨gr, 0, none⟩), .pointer (some ⟨gi, 0, none⟩)] W (LPost w W gr gi (ldMagic s) m) := by
  have HT := Lib.hid (take_any h.rd (n := 4) ⟨by decide, by decide⟩)
  have HH := Lib.hid h
  have HCS := Lib.hid (show ∀ (W : World) A c, Below w.heap.size w W → Kd.C (Kd.int .u8) w A (takenR 4 s).length (takenR 4 s) → (convert 33 9 (.slice A (takenR 4 s).length c)).run Tryz.prog W = .ok (.string (strOfNums (takenR 4 s))) W from fun W A c hB hC => Kd.C_string (P := Tryz.prog) Tryz.underlying33 Tryz.underlying5 Tryz.underlying9 (Kd.C_below hC hB))
  have hm : ldMagic s = if strOfNums (takenR 4 s) = magicS then takeR 4 s else ((takeR 4 s).1, true) := rfl
  by_cases hd : strOfNums (takenR 4 s) = magicS
  · rw [if_pos hd] at hm
    rw [hd] at HCS
    rw [hm]
    unfold magicS at HCS
    clear hm hd h
    go_enter Tryz.func44, Tryz.ntmps44
    go_wp2_with fail
    refine HT.out.mono ?_
    rintro e1 w1 ⟨A1, c1, rfl, hc1, hC1, hR1, hO1⟩
    have hcs := HCS.out w1 A1 c1 hR1.2.1 hC1
    have HR1 := Lib.hid hR1
    have HO1 := Lib.hid hO1
    clear hR1 hO1 hC1
    go_wp2_with fail
    go_end0
    exact ⟨rfl, ⟨v4, v5, v6, HH.out.read HR1.out HO1.out⟩, Rg.of_ro HO1.out⟩
  · rw [if_neg hd] at hm
    rw [hm]
    have hb2 : ((strOfNums (takenR 4 s)).toList == [114, 102, 114, 110]) = false := by
      rw [beq_eq_false_iff_ne]
      intro h2
      rw [ByteArray.toList_eq] at h2
      exact hd (ByteArray.ext (Array.ext' h2))
    generalize strOfNums (takenR 4 s) = tx at *
    clear hm h
    go_enter Tryz.func44, Tryz.ntmps44
    go_wp2_with fail
    refine HT.out.mono ?_
    rintro e1 w1 ⟨A1, c1, rfl, hc1, hC1, hR1, hO1⟩
    have hcs := HCS.out w1 A1 c1 hR1.2.1 hC1
    have HR1 := Lib.hid hR1
    have HO1 := Lib.hid hO1
    have hc1' := hR1.cells.choose_spec.choose_spec.2.1
    have hf1' := hR1.cells.choose_spec.choose_spec.2.2.1
    clear hR1 hO1 hC1
    go_wp2_with fail
    trace_state
    go_end0
    exact ⟨rfl, ⟨v4, v5, v6, HH.out.read (HR1.out.mark true) (HO1.out.trans (Ro.set 1 _))⟩, Rg.of_ro (HO1.out.trans (Ro.set 1 _))⟩
def ldNums (s : Rs) (m : Img) : Rs × Img :=
  ((numR (numR (numR (numR s).2).2).2).2, { m with runs := (numR s).1, made := (numR (numR s).2).1, seq := (numR (numR (numR s).2).2).1, now := (numR (numR (numR (numR s).2).2).2).1 })
set_option maxHeartbeats 4000000 in
theorem readNumbers_any {w W : World} {gr gi : Nat} {s : Rs} {m : Img} {v4 v5 v6 : Value} (h : LdS w gr gi s m v4 v5 v6 W) (hs : Rok s) :
    Calls Tryz.prog 46 #[.pointer (some ⟨gr, 0, none⟩), .pointer (some ⟨gi, 0, none⟩)] W (LPost w W gr gi (ldNums s m).1 (ldNums s m).2) := by
  have HN1 := Lib.hid (fun W' (h : RAt w W' gr s) => number_any h hs)
  have HN2 := Lib.hid (fun W' (h : RAt w W' gr (numR s).2) => number_any h hs.num)
  have HN3 := Lib.hid (fun W' (h : RAt w W' gr (numR (numR s).2).2) => number_any h hs.num.num)
  have HN4 := Lib.hid (fun W' (h : RAt w W' gr (numR (numR (numR s).2).2).2) => number_any h hs.num.num.num)
  unfold ldNums
  generalize numR s = r at *
  obtain ⟨n1, s1⟩ := r
  simp only at HN2 HN3 HN4 ⊢
  generalize numR s1 = r at *
  obtain ⟨n2, s2⟩ := r
  simp only at HN3 HN4 ⊢
  generalize numR s2 = r at *
  obtain ⟨n3, s3⟩ := r
  simp only at HN4 ⊢
  generalize numR s3 = r at *
  obtain ⟨n4, s4⟩ := r
  simp only
  have HH := Lib.hid h
  clear h
  go_enter Tryz.func46, Tryz.ntmps46
  go_wp2_with fail
  refine (HN1.out _ HH.out.rd).mono ?_
  rintro e1 w1 ⟨rfl, hR1, hO1⟩
  have H1 := Lib.hid (HH.out.read hR1 hO1)
  have G1 := Lib.hid (Rg.of_ro (gi := gi) hO1)
  clear hR1 hO1
  go_wp2_with fail
  refine (HN2.out _ H1.out.rd).mono ?_
  rintro e2 w2 ⟨rfl, hR2, hO2⟩
  have h2 := H1.out.read hR2 hO2
  have c0 := (h2.cell 0).trans rfl
  have c1 := (h2.cell 1).trans rfl
  have f0 := h2.free 0
  have f1 := h2.free 1
  have H3 := Lib.hid ((h2.set0 n1).set1 n2)
  have G3 := Lib.hid (((G1.out.trans (Rg.of_ro hO2)).set 0 (.int .i64 n1)).set 1 (.int .i64 n2))
  clear hR2 hO2 h2
  go_wp2_with fail
  refine (HN3.out _ H3.out.rd).mono ?_
  rintro e3 w3 ⟨rfl, hR3, hO3⟩
  have H4 := Lib.hid (H3.out.read hR3 hO3)
  have G4 := Lib.hid (G3.out.trans (Rg.of_ro hO3))
  clear hR3 hO3 c0 c1 f0 f1
  go_wp2_with fail
  refine (HN4.out _ H4.out.rd).mono ?_
  rintro e4 w4 ⟨rfl, hR4, hO4⟩
  have h5 := H4.out.read hR4 hO4
  have c2 := (h5.cell 2).trans rfl
  have c3 := (h5.cell 3).trans rfl
  have f2 := h5.free 2
  have f3 := h5.free 3
  have H5 := Lib.hid ((h5.set2 n3).set3 n4)
  have G5 := Lib.hid (((G4.out.trans (Rg.of_ro hO4)).set 2 (.int .i64 n3)).set 3 (.int .i64 n4))
  clear hR4 hO4 h5
  go_wp2_with fail
  go_end0
  exact ⟨rfl, ⟨v4, v5, v6, H5.out⟩, G5.out⟩
theorem LdS.st {w W : World} {gr gi : Nat} {s : Rs} {m : Img} {v4 v5 v6 : Value} (h : LdS w gr gi s m v4 v5 v6 W) : RSt w gr W.heap.size none (s, 0) (W.alloc (.cells #[.pointer (some ⟨gr, 0, none⟩)] 84)) :=
  ⟨h.rd.below (below_new W _), blk_new W _, (fun p hp => by cases hp), (fun p hp => by cases hp)⟩
set_option maxRecDepth 100000 in
set_option maxHeartbeats 4000000 in
theorem readTypes_any {w W : World} {gr gi : Nat} {s : Rs} {m : Img} {v4 v5 v6 : Value} (h : LdS w gr gi s m v4 v5 v6 W) (hs : Rok s) (hlen : s.1.length ≤ 1000000000000) :
    Calls Tryz.prog 48 #[.pointer (some ⟨gr, 0, none⟩), .pointer (some ⟨gi, 0, none⟩)] W (LPost w W gr gi (getR typeR (s, 0)).2.1 { m with types := (getR typeR (s, 0)).1 }) := by
  have HG := Lib.hid (fun W' pb (h : RSt w gr pb none (s, 0) W') => getTypes_any typeR gr pb h hs hlen typeR_ok (fun s' W'' h1 h3 h2 => rType_any h2 h1 h3))
  generalize getR typeR (s, 0) = r at *
  obtain ⟨xs, s1, z1⟩ := r
  have HST := Lib.hid h.st
  have HK := Lib.hid (h.below (below_new W (.cells #[.pointer (some ⟨gr, 0, none⟩)] 84)))
  have p0 := h.st.cellp
  have hmf : ∀ fn first cap w, (Instr.makeFunc fn first cap).run Tryz.prog w = .ok (.func fn first cap) w := fun _ _ _ _ => rfl
  clear h hs
  go_enter Tryz.func48, Tryz.ntmps48
  go_wp2_with fail
  skip
  refine (HG.out _ _ HST.out).mono ?_
  rintro e1 w1 ⟨v, rfl, hv, hS1, hO1⟩
  obtain ⟨A, c, rfl⟩ := Kd.R_slice hv
  have h1 := HK.out.read hS1.rd hO1.ro
  have c4 := (h1.cell 4).trans rfl
  have f4 := h1.free 4
  have H1 := Lib.hid (h1.set4 (Kd.R_lower hv HK.out.rd.2.1.size))
  have G1 := Lib.hid ((Rg.of_rp (gi := gi) (below_new W (.cells #[.pointer (some ⟨gr, 0, none⟩)] 84)) (fun p hp => by cases hp) hO1).set 4 (.slice A xs.length c))
  clear hv hS1 hO1 h1
  go_wp2_with fail
  go_end0
  exact ⟨rfl, ⟨_, _, _, H1.out⟩, G1.out⟩
set_option maxRecDepth 100000 in
set_option maxHeartbeats 4000000 in
theorem readQueries_any {w W : World} {gr gi : Nat} {s : Rs} {m : Img} {v4 v5 v6 : Value} (h : LdS w gr gi s m v4 v5 v6 W) (hs : Rok s) (hlen : s.1.length ≤ 1000000000000) :
    Calls Tryz.prog 50 #[.pointer (some ⟨gr, 0, none⟩), .pointer (some ⟨gi, 0, none⟩)] W (LPost w W gr gi (getR savedR (s, 0)).2.1 { m with saved := (getR savedR (s, 0)).1 }) := by
  have HG := Lib.hid (fun W' pb (h : RSt w gr pb none (s, 0) W') => getSaved_any savedR gr pb h hs hlen savedR_ok (fun s' W'' h1 _ h2 => rSaved_any h2 h1))
  generalize getR savedR (s, 0) = r at *
  obtain ⟨xs, s1, z1⟩ := r
  have HST := Lib.hid h.st
  have HK := Lib.hid (h.below (below_new W (.cells #[.pointer (some ⟨gr, 0, none⟩)] 84)))
  have p0 := h.st.cellp
  have hmf : ∀ fn first cap w, (Instr.makeFunc fn first cap).run Tryz.prog w = .ok (.func fn first cap) w := fun _ _ _ _ => rfl
  clear h hs
  go_enter Tryz.func50, Tryz.ntmps50
  go_wp2_with fail
  skip
  refine (HG.out _ _ HST.out).mono ?_
  rintro e1 w1 ⟨v, rfl, hv, hS1, hO1⟩
  obtain ⟨A, c, rfl⟩ := Kd.R_slice hv
  have h1 := HK.out.read hS1.rd hO1.ro
  have c4 := (h1.cell 5).trans rfl
  have f4 := h1.free 5
  have H1 := Lib.hid (h1.set5 (Kd.R_lower hv HK.out.rd.2.1.size))
  have G1 := Lib.hid ((Rg.of_rp (gi := gi) (below_new W (.cells #[.pointer (some ⟨gr, 0, none⟩)] 84)) (fun p hp => by cases hp) hO1).set 5 (.slice A xs.length c))
  clear hv hS1 hO1 h1
  go_wp2_with fail
  go_end0
  exact ⟨rfl, ⟨_, _, _, H1.out⟩, G1.out⟩
theorem LdS.stl {w W : World} {gr gi : Nat} {s : Rs} {m : Img} {v4 v5 v6 : Value} (h : LdS w gr gi s m v4 v5 v6 W) : RSt w gr W.heap.size (some (W.heap.size + 1)) (s, 0) ((W.alloc (.cells #[.pointer (some ⟨gr, 0, none⟩)] 84)).alloc (.cells #[.int .i64 0] 2)) := by
  have hb := below_new (W.alloc (.cells #[.pointer (some ⟨gr, 0, none⟩)] 84)) (.cells #[.int .i64 0] 2)
  refine ⟨(h.rd.below (below_new W _)).below hb, blk_below (blk_new W _) hb, ?_, ?_⟩
  · intro p hp
    injection hp with hp
    subst hp
    have := blk_new (W.alloc (.cells #[.pointer (some ⟨gr, 0, none⟩)] 84)) (.cells #[.int .i64 0] 2)
    rw [show (W.alloc (.cells #[.pointer (some ⟨gr, 0, none⟩)] 84)).heap.size = W.heap.size + 1 by simp] at this
    exact this
  · intro p hp
    injection hp with hp
    subst hp
    have := h.rd.2.1.size
    omega
theorem LdS.rp {w W W1 : World} {gr gi p pb : Nat} {s r : Rs} {s1 : Rl} {m : Img} {v4 v5 v6 : Value} (h : LdS w gr gi s m v4 v5 v6 W) (hS : RSt w gr pb (some p) s1 W) (hR : RAt w W1 gr r) (hO : Rp gr (some p) W W1) (hp : gi ≠ p) : LdS w gr gi r m v4 v5 v6 W1 :=
  ⟨hR, h.gl, hO.blk h.im h.gn (fun e => by injection e with e; exact hp e), R_rp h.r4 hS k56q hO, R_rp h.r5 hS k60q hO, R_rp h.r6 hS k65q hO⟩
set_option maxRecDepth 100000 in
set_option maxHeartbeats 4000000 in
theorem readEvents_any {w W : World} {gr gi : Nat} {s : Rs} {m : Img} {v4 v5 v6 : Value} (hGW : GW w) (h : LdS w gr gi s m v4 v5 v6 W) (hs : Rok s) (hlen : s.1.length ≤ 1000000000000) :
    Calls Tryz.prog 52 #[.pointer (some ⟨gr, 0, none⟩), .pointer (some ⟨gi, 0, none⟩)] W (LPost w W gr gi (getR seenR (s, 0)).2.1 { m with seens := (getR seenR (s, 0)).1 }) := by
  have HG := Lib.hid (fun W' pb p (h : RSt w gr pb (some p) (s, 0) W') => getSeens_any seenR gr pb p h hs hlen seenR_ok (fun s' W'' h1 _ h2 => rSeen_any hGW h2 h1))
  generalize getR seenR (s, 0) = r at *
  obtain ⟨xs, s1, z1⟩ := r
  have HST := Lib.hid h.stl
  have HK := Lib.hid ((h.below (below_new W (.cells #[.pointer (some ⟨gr, 0, none⟩)] 84))).below (below_new _ (.cells #[.int .i64 0] 2)))
  have HNE := Lib.hid (show gi ≠ W.heap.size + 1 by have := blk_lt' h.im; omega)
  have p0 := h.stl.cellp
  have hmf : ∀ fn first cap w, (Instr.makeFunc fn first cap).run Tryz.prog w = .ok (.func fn first cap) w := fun _ _ _ _ => rfl
  clear h hs
  go_enter Tryz.func52, Tryz.ntmps52
  go_wp2_with fail
  refine (HG.out _ _ _ HST.out).mono ?_
  rintro e1 w1 ⟨v, rfl, hv, hS1, hO1⟩
  obtain ⟨A, c, rfl⟩ := Kd.R_slice hv
  have h1 := LdS.rp HK.out HST.out hS1.rd hO1 HNE.out
  have c4 := (h1.cell 6).trans rfl
  have f4 := h1.free 6
  have H1 := Lib.hid (h1.set6 (Kd.R_lower hv HK.out.rd.2.1.size))
  have G1 := Lib.hid ((Rg.of_rp (gi := gi) (below_step (below_new W (.cells #[.pointer (some ⟨gr, 0, none⟩)] 84)) (below_new _ (.cells #[.int .i64 0] 2))) (fun p hp => by injection hp with hp; omega) hO1).set 6 (.slice A xs.length c))
  clear hv hS1 hO1 h1
  go_wp2_with fail
  go_end0
  exact ⟨rfl, ⟨_, _, _, H1.out⟩, G1.out⟩
end Go.Proofs.YtcfgmkmllcfjjaaGreatDoor
set_option linter.unusedVariables false
set_option linter.unusedSimpArgs false
namespace Go.Proofs.YtcfgmkmllcfjjaaGreatDoor
open Go.RowKit Go.Proofs.YtcfgmkmllcfjjaaGreatDoorW.PrintWords Go.Proofs.YtcfgmkmllcfjjaaGreatDoorW.PrintMore PImageAll
section
variable {α : Type} {one : Rl → α × Rl}
theorem getF_bad (n : Nat) {s : Rl} (h : s.1.2 = true) : getF one n s = ([], s) := by
  cases n with
  | zero => rfl
  | succ n => rw [getF, if_pos h]
theorem getF_len (h : OneOk one) : ∀ (n : Nat) (s : Rl), Rok s.1 → (getF one n s).1.length + (getF one n s).2.1.1.length ≤ s.1.1.length + 1
  | 0, s, hs => by rw [getF]; simp
  | n + 1, s, hs => by
    rw [getF]
    by_cases hb : s.1.2 = true
    · rw [if_pos hb]; simp
    · rw [if_neg hb]
      obtain ⟨h1, h2, h3⟩ := h s hs
      have ih := getF_len h n (one s).2 h1
      simp only [List.length_cons]
      by_cases hb2 : (one s).2.1.2 = true
      · rw [getF_bad n hb2]
        simp only [List.length_nil]
        omega
      · have := h3 (by simpa using hb) (by simpa using hb2)
        omega
theorem getR_len (h : OneOk one) (s : Rl) (hs : Rok s.1) : (getR one s).1.length ≤ s.1.1.length + 1 := by
  have h2 := num_len s.1
  unfold getR
  split
  · simp
  · have h3 := getF_len h (numR s.1).1.toNat ((numR s.1).2, s.2) hs.num
    have h4 : ((numR s.1).2, s.2).1.1.length = (numR s.1).2.1.length := rfl
    omega
theorem getF_all (h : OneOk one) {P : α → Prop} {B : Nat} (hP : ∀ s : Rl, Rok s.1 → s.1.1.length ≤ B → P (one s).1) : ∀ (n : Nat) (s : Rl), Rok s.1 → s.1.1.length ≤ B → ∀ x ∈ (getF one n s).1, P x
  | 0, s, hs, hB => fun x hx => by rw [getF] at hx; cases hx
  | n + 1, s, hs, hB => fun x hx => by
    rw [getF] at hx
    by_cases hb : s.1.2 = true
    · rw [if_pos hb] at hx; cases hx
    · rw [if_neg hb] at hx
      obtain ⟨h1, h2, h3⟩ := h s hs
      rcases List.mem_cons.1 hx with rfl | hx
      · exact hP s hs hB
      · exact getF_all h hP n _ h1 (Nat.le_trans h2 hB) x hx
theorem getR_all (h : OneOk one) {P : α → Prop} {B : Nat} (hP : ∀ s : Rl, Rok s.1 → s.1.1.length ≤ B → P (one s).1) (s : Rl) (hs : Rok s.1) (hB : s.1.1.length ≤ B) : ∀ x ∈ (getR one s).1, P x := by
  unfold getR
  split
  · intro x hx; cases hx
  · exact getF_all h hP _ _ hs.num (Nat.le_trans (num_len s.1) hB)
end
theorem wvalue_I64 (l : List Int) (s : Ws) : I64 (wvalue l s).1.f1 := by
  have h0 : I64 0 := ⟨by decide, by decide⟩
  unfold wvalue
  split
  · split
    · exact wnum_rng (lo := minI) (hi := maxI) (by decide) (by decide) _
    · split
      · exact h0
      · exact h0
  · exact h0
theorem wvals_I64 (l : List Int) : ∀ (n : Nat) (s : Ws), ∀ y ∈ (wvals l n s).1, I64 y.f1
  | 0, _, y, hy => by cases hy
  | n + 1, s, y, hy => by
    rcases List.mem_cons.1 hy with rfl | hy
    · exact wvalue_I64 l s
    · exact wvals_I64 l n _ y hy
theorem wvals_len (l : List Int) : ∀ (n : Nat) (s : Ws), (wvals l n s).1.length = n
  | 0, _ => rfl
  | n + 1, s => by
    show (_ :: (wvals l n _).1).length = n + 1
    rw [List.length_cons, wvals_len l n]
theorem decR_vals (l : List Int) : (∀ y ∈ (decR l).1.f2, I64 y.f1) ∧ (decR l).1.f2.length ≤ 16 := by
  unfold decR
  split
  · refine ⟨wvals_I64 l _ _, ?_⟩
    show (wvals l _ _).1.length ≤ 16
    rw [wvals_len]
    have := wnum_rng' (l := l) (lo := 0) (hi := 16) (by decide) (by decide) (wtime l (wname l (0, 0)).2).2
    have h2 : wcount l (wtime l (wname l (0, 0)).2).2 = wnum l 0 16 (wtime l (wname l (0, 0)).2).2 := rfl
    rw [h2]
    omega
  · exact ⟨(fun y hy => by cases hy), Nat.zero_le _⟩
theorem flat_le {α : Type} {f : α → List Int} {xs : List α} {B : Nat} (h : ∀ x ∈ xs, (f x).length ≤ B) : (xs.flatMap f).length ≤ xs.length * B := by
  induction xs with
  | nil => simp
  | cons x xs ih =>
    have h1 := h x List.mem_cons_self
    have h2 := ih (fun y hy => h y (List.mem_cons_of_mem _ hy))
    rw [List.flatMap_cons, List.length_append, List.length_cons, Nat.add_mul]
    omega
theorem len_I64 {n : Nat} (h : n ≤ 9223372036854775807) : I64 (n : Int) := ⟨by omega, by omega⟩
theorem name_len {s : ByteArray} (h : nameB s = true) : s.size ≤ 32 := by
  unfold nameB at h
  split at h
  · simp only [Bool.and_eq_true, decide_eq_true_eq] at h
    exact h.1.1.1
  · cases h
theorem txt_le {s : ByteArray} {B : Nat} (h : s.size ≤ B) (hB : B ≤ 1000000) : (txt s).length ≤ 10 + B := by
  have := txt_len s (by omega)
  omega
theorem encVal_le {x : S67} (h : ValOk x) : (encVal x).length ≤ 300 := by
  unfold encVal
  rcases h with ⟨n, hn⟩ | ⟨s, hs⟩ | ⟨b⟩
  · have := puti_len hn
    simp only [if_true, List.length_cons]
    omega
  · have := txt_le hs (by decide)
    show (2 :: txt s).length ≤ 300
    rw [List.length_cons]
    omega
  · show (3 :: [_]).length ≤ 300
    simp
theorem encB_le {x : S63} (hv : ∀ y ∈ x.f2, I64 y.f1) : (encB x).length ≤ 5000 := by
  unfold encB
  split
  · rename_i h
    obtain ⟨h1, h2, h3, h4⟩ := fault_zero h
    have a1 := txt_le (name_len h1) (by decide)
    have a2 := puti_len (n := x.f1) ⟨by omega, by omega⟩
    have a3 := puti_len (n := (x.f2.length : Int)) (len_I64 (by omega))
    have a4 := flat_le (f := encVal) (xs := x.f2) (B := 300) (fun y hy => encVal_le (validB_ok (h4 y hy) (hv y hy)))
    have a5 : x.f2.length * 300 ≤ 16 * 300 := Nat.mul_le_mul_right _ h3
    simp only [encEvent, List.length_append]
    omega
  · simp
theorem encSeenL_len (last : Int) (xs : List S65) (hv : ∀ x ∈ xs, ∀ y ∈ x.f1.f2, I64 y.f1) : (encSeenL last xs).length ≤ xs.length * 5011 := by
  induction xs generalizing last with
  | nil => simp [encSeenL]
  | cons x xs ih =>
    have h1 := encB_le (hv x List.mem_cons_self)
    have h2 := ih x.f0 (fun y hy => hv y (List.mem_cons_of_mem _ hy))
    have h3 := puti_len (sub64_I64 x.f0 last)
    simp only [encSeenL, encSeen, List.length_append, List.length_cons, List.length_nil, Nat.add_mul]
    omega
theorem laid_len {m : Img} (hm : ImgI m) (hs : m.seens.length ≤ 100000000) (h : mayB m = true) : (laid m).length ≤ 10000000000000 := by
  unfold mayB at h
  simp only [Bool.and_eq_true, decide_eq_true_eq, List.all_eq_true] at h
  obtain ⟨_, _, _, _, h5, h6, h7, h8, _⟩ := h
  have a1 := puti_len hm.runs
  have a2 := puti_len hm.made
  have a3 := puti_len hm.seq
  have a4 := puti_len hm.now
  have ha : ∀ x ∈ m.types, (encType x).length ≤ 1000 := by
    intro x hx
    have h1 := h7 x hx
    unfold typeB at h1
    simp only [Bool.and_eq_true, decide_eq_true_eq, List.all_eq_true] at h1
    obtain ⟨k1, k2, k3⟩ := h1
    have b1 := txt_le (name_len k1) (by decide)
    have b2 := puti_len (len_I64 (n := x.f1.length) (by omega))
    have b3 := flat_le (f := encAttr) (xs := x.f1) (B := 43) (fun y hy => by
      have k4 := k3 y hy
      unfold attrB at k4
      simp only [Bool.and_eq_true] at k4
      have := txt_le (name_len k4.1) (by decide)
      simp only [encAttr, List.length_append, List.length_singleton]
      omega)
    have b4 : x.f1.length * 43 ≤ 16 * 43 := Nat.mul_le_mul_right _ k2
    simp only [encType, encAttrs, List.length_append]
    omega
  have hq : ∀ x ∈ m.saved, (encSaved x).length ≤ 5000 := by
    intro x hx
    have h1 := h8 x hx
    unfold savedB at h1
    simp only [Bool.and_eq_true, decide_eq_true_eq] at h1
    obtain ⟨k1, k2, _⟩ := h1
    have b1 := txt_le (name_len k1) (by decide)
    have b2 := txt_le k2 (by decide)
    have b3 := puti_len (hm.since x hx)
    simp only [encSaved, List.length_append, List.length_singleton]
    omega
  have c1 := flat_le ha
  have c2 := flat_le hq
  have c3 := encSeenL_len 0 m.seens hm.vals
  have c4 : m.types.length * 1000 ≤ 64 * 1000 := Nat.mul_le_mul_right _ h5
  have c5 : m.saved.length * 5000 ≤ 64 * 5000 := Nat.mul_le_mul_right _ h6
  have c6 : m.seens.length * 5011 ≤ 100000000 * 5011 := Nat.mul_le_mul_right _ hs
  have d1 := puti_len (len_I64 hm.lt)
  have d2 := puti_len (len_I64 hm.lq)
  have d3 := puti_len (len_I64 hm.ls)
  simp only [laid, laidK, encNums, encTypes, encSaveds, encSeens, magicL, List.length_append, List.length_cons, List.length_nil]
  omega
end Go.Proofs.YtcfgmkmllcfjjaaGreatDoor
set_option linter.unusedVariables false
set_option linter.unusedSimpArgs false
namespace Go.Proofs.YtcfgmkmllcfjjaaGreatDoor
open Go.RowKit Go.Proofs.YtcfgmkmllcfjjaaGreatDoorW.PrintWords Go.Proofs.YtcfgmkmllcfjjaaGreatDoorW.PrintMore PImageAll
def zImg : Img := ⟨0, 0, 0, 0, [], [], []⟩
def ldStep : Nat → Rs × Img → Rs × Img
  | 0, r => (ldMagic r.1, r.2)
  | 1, r => ldNums r.1 r.2
  | 2, r => ((getR typeR (r.1, 0)).2.1, { r.2 with types := (getR typeR (r.1, 0)).1 })
  | 3, r => ((getR savedR (r.1, 0)).2.1, { r.2 with saved := (getR savedR (r.1, 0)).1 })
  | _, r => ((getR seenR (r.1, 0)).2.1, { r.2 with seens := (getR seenR (r.1, 0)).1 })
def ldK (s : Rs) : Nat → Rs × Img
  | 0 => (s, zImg)
  | k + 1 => ldStep k (ldK s k)
theorem ldMagic_ok {s : Rs} (hs : Rok s) : Rok (ldMagic s) ∧ (ldMagic s).1.length ≤ s.1.length := by
  unfold ldMagic
  split
  · exact ⟨hs.take 4, take_len 4 s⟩
  · exact ⟨(hs.take 4).mark true, take_len 4 s⟩
theorem ldStep_ok (k : Nat) (r : Rs × Img) (hs : Rok r.1) : Rok (ldStep k r).1 ∧ (ldStep k r).1.1.length ≤ r.1.1.length := by
  match k with
  | 0 => exact ldMagic_ok hs
  | 1 =>
    have h1 := hs.num
    have h2 := h1.num
    have h3 := h2.num
    exact ⟨h3.num, Nat.le_trans (num_len _) (Nat.le_trans (num_len _) (Nat.le_trans (num_len _) (num_len _)))⟩
  | 2 => have h := getR_ok typeR_ok (r.1, 0) hs; exact ⟨h.1, h.2.1⟩
  | 3 => have h := getR_ok savedR_ok (r.1, 0) hs; exact ⟨h.1, h.2.1⟩
  | k + 4 => have h := getR_ok seenR_ok (r.1, 0) hs; exact ⟨h.1, h.2.1⟩
theorem ldK_ok (s : Rs) (hs : Rok s) : ∀ k, Rok (ldK s k).1 ∧ (ldK s k).1.1.length ≤ s.1.length
  | 0 => ⟨hs, Nat.le_refl _⟩
  | k + 1 => by
    have ih := ldK_ok s hs k
    have h := ldStep_ok k (ldK s k) ih.1
    exact ⟨h.1, Nat.le_trans h.2 ih.2⟩
theorem rpart_step {w W : World} {gr gi k : Nat} {r : Rs × Img} {v4 v5 v6 : Value} (hG : GW w) (hs : Rok r.1) (hl : r.1.1.length ≤ 1000000000000) (hk : k < 5) (h : LdS w gr gi r.1 r.2 v4 v5 v6 W) :
    Calls Tryz.prog (44 + 2 * k) #[.pointer (some ⟨gr, 0, none⟩), .pointer (some ⟨gi, 0, none⟩)] W (LPost w W gr gi (ldStep k r).1 (ldStep k r).2) := by
  obtain rfl | rfl | rfl | rfl | rfl : k = 0 ∨ k = 1 ∨ k = 2 ∨ k = 3 ∨ k = 4 := by omega
  · exact readMagic_any h
  · exact readNumbers_any h hs
  · exact readTypes_any h hs hl
  · exact readQueries_any h hs hl
  · exact readEvents_any hG h hs hl
theorem rpart_any {w W : World} {gr gi k : Nat} {s : Rs} {v4 v5 v6 : Value} (hG : GW w) (hs : Rok s) (hl : s.1.length ≤ 1000000000000) (hk : k < 5) (h : LdS w gr gi (ldK s k).1 (ldK s k).2 v4 v5 v6 W) :
    Calls Tryz.prog (44 + 2 * k) #[.pointer (some ⟨gr, 0, none⟩), .pointer (some ⟨gi, 0, none⟩)] W (LPost w W gr gi (ldK s (k + 1)).1 (ldK s (k + 1)).2) := by
  have ho := ldK_ok s hs k
  have e : ldK s (k + 1) = ldStep k (ldK s k) := rfl
  rw [e]
  exact rpart_step hG ho.1 (Nat.le_trans ho.2 hl) hk h
def loadM (L : List Int) : Rs × Img := ldK (L.take (L.length - 4), false) 5
def loadF (L : List Int) : Img × Int :=
  if 67108864 < L.length then (zImg, 2)
  else if L.length < 8 then (zImg, 30)
  else if sumB (L.take (L.length - 4)) = L.drop (L.length - 4) then
    (if (loadM L).1.2 = true ∨ 0 < (loadM L).1.1.length then (zImg, 220) else (if saveE (loadM L).2 = 0 ∧ saveB (loadM L).2 = L then ((loadM L).2, 0) else (zImg, 220)))
  else (zImg, 32)
theorem ldK_succ (s : Rs) (k : Nat) : ldK s (k + 1) = ldStep k (ldK s k) := rfl
theorem ldK_5 (s : Rs) : (ldK s 5).2.runs = (numR (ldK s 1).1).1 ∧ (ldK s 5).2.made = (numR (numR (ldK s 1).1).2).1 ∧ (ldK s 5).2.seq = (numR (numR (numR (ldK s 1).1).2).2).1 ∧ (ldK s 5).2.now = (numR (numR (numR (numR (ldK s 1).1).2).2).2).1 ∧
    (ldK s 5).2.types = (getR typeR ((ldK s 2).1, 0)).1 ∧ (ldK s 5).2.saved = (getR savedR ((ldK s 3).1, 0)).1 ∧ (ldK s 5).2.seens = (getR seenR ((ldK s 4).1, 0)).1 := by
  have h4 := ldK_succ s 4
  have h3 := ldK_succ s 3
  have h2 := ldK_succ s 2
  have h1 := ldK_succ s 1
  generalize ldK s 1 = r1 at *
  generalize ldK s 2 = r2 at *
  generalize ldK s 3 = r3 at *
  generalize ldK s 4 = r4 at *
  generalize ldK s 5 = r5 at *
  subst h4
  subst h3
  subst h2
  subst h1
  simp only [ldStep, ldNums, and_self]
theorem savedR_f2 (s : Rl) : (savedR s).1.f2 = (numR (textR (textR s.1).2).2).1 := by unfold savedR; rfl
theorem typeR_f1 (s : Rl) : (typeR s).1.f1 = (getR attrR ((textR s.1).2, s.2)).1 := by unfold typeR; rfl
theorem seenR_f1 (s : Rl) : (seenR s).1.f1 = (decR (seenM s).2.1).1 := by unfold seenR; rfl
theorem tail_I64 {s : Rs} {B : Nat} (hs : Rok s) (hl : s.1.length ≤ B) (hBB : B ≤ 1000000000000) : ImgI (ldK s 5).2 ∧ (ldK s 5).2.seens.length ≤ s.1.length + 1 := by
  have h1 := ldK_ok s hs 1
  have h2 := ldK_ok s hs 2
  have h3 := ldK_ok s hs 3
  have h4 := ldK_ok s hs 4
  have n1 := h1.1.num
  have n2 := n1.num
  have n3 := n2.num
  obtain ⟨ea, eb, ec, ed, e1, e2, e3⟩ := ldK_5 s
  generalize ldK s 1 = r1 at *
  generalize ldK s 2 = r2 at *
  generalize ldK s 3 = r3 at *
  generalize ldK s 4 = r4 at *
  generalize ldK s 5 = r5 at *
  obtain ⟨r2, _⟩ := r2
  obtain ⟨r3, _⟩ := r3
  obtain ⟨r4, _⟩ := r4
  simp only at h2 h3 h4 e1 e2 e3
  have l1 : (getR typeR (r2, 0)).1.length ≤ r2.1.length + 1 := getR_len typeR_ok (r2, 0) h2.1
  have l2 : (getR savedR (r3, 0)).1.length ≤ r3.1.length + 1 := getR_len savedR_ok (r3, 0) h3.1
  have l3 : (getR seenR (r4, 0)).1.length ≤ r4.1.length + 1 := getR_len seenR_ok (r4, 0) h4.1
  refine ⟨⟨by rw [ea]; exact num_I64 h1.1, by rw [eb]; exact num_I64 n1, by rw [ec]; exact num_I64 n2, by rw [ed]; exact num_I64 n3, ?_, ?_, by rw [e1]; omega, by rw [e2]; omega, by rw [e3]; omega, ?_, ?_⟩, by rw [e3]; omega⟩
  · rw [e2]
    exact getR_all savedR_ok (P := fun x => I64 x.f2) (B := B) (fun s' hs' _ => by rw [savedR_f2]; exact num_I64 hs'.text.text) _ h3.1 (Nat.le_trans h3.2 hl)
  · rw [e3]
    exact getR_all seenR_ok (P := fun x => ∀ y ∈ x.f1.f2, I64 y.f1) (B := B) (fun s' hs' _ => by rw [seenR_f1]; exact (decR_vals _).1) _ h4.1 (Nat.le_trans h4.2 hl)
  · rw [e1]
    exact getR_all typeR_ok (P := fun x => x.f1.length ≤ 9223372036854775807) (B := B) (fun s' hs' hB => by
      have h5 : (getR attrR ((textR s'.1).2, s'.2)).1.length ≤ (textR s'.1).2.1.length + 1 := getR_len attrR_ok ((textR s'.1).2, s'.2) hs'.text
      have h6 := text_len s'.1
      rw [typeR_f1]
      omega) _ h2.1 (Nat.le_trans h2.2 hl)
  · rw [e3]
    exact getR_all seenR_ok (P := fun x => x.f1.f2.length ≤ 9223372036854775807) (B := B) (fun s' hs' _ => by
      have h5 : (decR (seenM s').2.1).1.f2.length ≤ 16 := (decR_vals _).2
      rw [seenR_f1]
      omega) _ h4.1 (Nat.le_trans h4.2 hl)
theorem C_eq {l0 l1 : List Int} (h0 : Bytes l0) (h1 : Bytes l1) : ((strOfNums l0).toList == (strOfNums l1).toList) = decide (l0 = l1) := by
  by_cases h : l0 = l1
  · subst h; simp
  · rw [decide_eq_false h, beq_eq_false_iff_ne]
    intro h2
    apply h
    rw [ByteArray.toList_eq, ByteArray.toList_eq] at h2
    have h3 : (l0.map fun n => UInt8.ofNat n.toNat) = (l1.map fun n => UInt8.ofNat n.toNat) := by simpa [strOfNums] using h2
    have h4 : ∀ l : List Int, Bytes l → (l.map fun n => UInt8.ofNat n.toNat).map (fun b => (b.toNat : Int)) = l := by
      intro l hl
      rw [List.map_map]
      conv => rhs; rw [← List.map_id l]
      apply List.map_congr_left
      intro b hb
      obtain ⟨k0, k1⟩ := hl b hb
      simp only [Function.comp, id]
      rw [UInt8.toNat_ofNat_of_lt' (by show b.toNat < 256; omega)]
      omega
    rw [← h4 l0 h0, ← h4 l1 h1, h3]
theorem equal_any {w : World} {A0 A1 : Option Addr} {c0 c1 : Nat} {l0 l1 : List Int} (h0 : Bytes l0) (h1 : Bytes l1) (hr0 : Kd.C (Kd.int .u8) w A0 l0.length l0) (hc0 : l0.length ≤ c0) (hr1 : Kd.C (Kd.int .u8) w A1 l1.length l1) (hc1 : l1.length ≤ c1) :
    Calls Tryz.prog 30 #[.slice A0 l0.length c0, .slice A1 l1.length c1] w fun e w' => e = .returned (.bool (decide (l0 = l1))) ∧ Drawn0 w w' :=
  bytes_Equal.calls A0 c0 l0 A1 c1 l1 _ w hr0 hc0 hr1 hc1 (by unfold bytes_Equal.f; rw [C_eq h0 h1])
theorem IBox.s0 {W : World} {b : Nat} {m : Img} {v4 v5 v6 : Value} (h : IBox W b m v4 v5 v6) (n : Int) : IBox (W.setCell ⟨b, 0, none⟩ (.int .i64 n)) b { m with runs := n } v4 v5 v6 := (blk_set h 0 _).trans rfl
theorem IBox.s1 {W : World} {b : Nat} {m : Img} {v4 v5 v6 : Value} (h : IBox W b m v4 v5 v6) (n : Int) : IBox (W.setCell ⟨b, 1, none⟩ (.int .i64 n)) b { m with made := n } v4 v5 v6 := (blk_set h 1 _).trans rfl
theorem IBox.s2 {W : World} {b : Nat} {m : Img} {v4 v5 v6 : Value} (h : IBox W b m v4 v5 v6) (n : Int) : IBox (W.setCell ⟨b, 2, none⟩ (.int .i64 n)) b { m with seq := n } v4 v5 v6 := (blk_set h 2 _).trans rfl
theorem IBox.s3 {W : World} {b : Nat} {m : Img} {v4 v5 v6 : Value} (h : IBox W b m v4 v5 v6) (n : Int) : IBox (W.setCell ⟨b, 3, none⟩ (.int .i64 n)) b { m with now := n } v4 v5 v6 := (blk_set h 3 _).trans rfl
theorem IBox.s4 {W : World} {b : Nat} {m : Img} {v4 v5 v6 : Value} (h : IBox W b m v4 v5 v6) (v : Value) : IBox (W.setCell ⟨b, 4, none⟩ v) b m v v5 v6 := (blk_set h 4 _).trans rfl
theorem IBox.s5 {W : World} {b : Nat} {m : Img} {v4 v5 v6 : Value} (h : IBox W b m v4 v5 v6) (v : Value) : IBox (W.setCell ⟨b, 5, none⟩ v) b m v4 v v6 := (blk_set h 5 _).trans rfl
theorem IBox.s6 {W : World} {b : Nat} {m : Img} {v4 v5 v6 : Value} (h : IBox W b m v4 v5 v6) (v : Value) : IBox (W.setCell ⟨b, 6, none⟩ v) b m v4 v5 v := (blk_set h 6 _).trans rfl
theorem IBox.put {W : World} {b : Nat} {m : Img} {v4 v5 v6 : Value} (h : IBox W b m v4 v5 v6) (m' : Img) (u4 u5 u6 : Value) :
    IBox (((((((W.setCell ⟨b, 0, none⟩ (.int .i64 m'.runs)).setCell ⟨b, 1, none⟩ (.int .i64 m'.made)).setCell ⟨b, 2, none⟩ (.int .i64 m'.seq)).setCell ⟨b, 3, none⟩ (.int .i64 m'.now)).setCell ⟨b, 4, none⟩ u4).setCell ⟨b, 5, none⟩ u5).setCell ⟨b, 6, none⟩ u6) b m' u4 u5 u6 :=
  ((((((h.s0 m'.runs).s1 m'.made).s2 m'.seq).s3 m'.now).s4 u4).s5 u5).s6 u6
def IRows (w W : World) (m : Img) (v4 v5 v6 : Value) : Prop := k56.R 56 W w.heap.size (fun _ => True) v4 m.types ∧ k60.R 60 W w.heap.size (fun _ => True) v5 m.saved ∧ k65.R 65 W w.heap.size (fun _ => True) v6 m.seens
theorem IRows.set {w W : World} {m : Img} {v4 v5 v6 : Value} (h : IRows w W m v4 v5 v6) {b : Nat} {cs : Array Value} (hb : W.heap[b]? = some (.cells cs 31 (0, 0))) (i : Nat) (v : Value) : IRows w (W.setCell ⟨b, i, none⟩ v) m v4 v5 v6 :=
  ⟨Kd.R_set h.1 hb (k56n (by decide) (by decide)) i v, Kd.R_set h.2.1 hb (k60n (by decide)) i v, Kd.R_set h.2.2 hb (k65n (by decide) (by decide)) i v⟩
theorem IRows.put {w W : World} {m m0 : Img} {v4 v5 v6 x4 x5 x6 : Value} (h : IRows w W m v4 v5 v6) {b : Nat} (hb : IBox W b m0 x4 x5 x6) (m' : Img) (u4 u5 u6 : Value) :
    IRows w (((((((W.setCell ⟨b, 0, none⟩ (.int .i64 m'.runs)).setCell ⟨b, 1, none⟩ (.int .i64 m'.made)).setCell ⟨b, 2, none⟩ (.int .i64 m'.seq)).setCell ⟨b, 3, none⟩ (.int .i64 m'.now)).setCell ⟨b, 4, none⟩ u4).setCell ⟨b, 5, none⟩ u5).setCell ⟨b, 6, none⟩ u6) m v4 v5 v6 :=
  ((((((h.set hb 0 _).set (blk_set hb 0 _) 1 _).set (blk_set (blk_set hb 0 _) 1 _) 2 _).set (blk_set (blk_set (blk_set hb 0 _) 1 _) 2 _) 3 _).set (blk_set (blk_set (blk_set (blk_set hb 0 _) 1 _) 2 _) 3 _) 4 _).set (blk_set (blk_set (blk_set (blk_set (blk_set hb 0 _) 1 _) 2 _) 3 _) 4 _) 5 _).set (blk_set (blk_set (blk_set (blk_set (blk_set (blk_set hb 0 _) 1 _) 2 _) 3 _) 4 _) 5 _) 6 _
theorem below7 {w W : World} (h : Below w.heap.size w W) {b : Nat} (hb : w.heap.size ≤ b) (x0 x1 x2 x3 x4 x5 x6 : Value) :
    Below w.heap.size w (((((((W.setCell ⟨b, 0, none⟩ x0).setCell ⟨b, 1, none⟩ x1).setCell ⟨b, 2, none⟩ x2).setCell ⟨b, 3, none⟩ x3).setCell ⟨b, 4, none⟩ x4).setCell ⟨b, 5, none⟩ x5).setCell ⟨b, 6, none⟩ x6) :=
  ((((((h.setCell (p := ⟨b, 0, none⟩) hb _).setCell (p := ⟨b, 1, none⟩) hb _).setCell (p := ⟨b, 2, none⟩) hb _).setCell (p := ⟨b, 3, none⟩) hb _).setCell (p := ⟨b, 4, none⟩) hb _).setCell (p := ⟨b, 5, none⟩) hb _).setCell (p := ⟨b, 6, none⟩) hb _
def LoadPost (w : World) (r : Img × Int) (e : Ending) (w' : World) : Prop :=
  ∃ v4 v5 v6, e = .returned (.tuple #[.agg #[.int .i64 r.1.runs, .int .i64 r.1.made, .int .i64 r.1.seq, .int .i64 r.1.now, v4, v5, v6], .int .i64 r.2]) ∧ IRows w w' r.1 v4 v5 v6 ∧ Below w.heap.size w w'
theorem IRows.nil (w W : World) : IRows w W zImg (.slice none 0 0) (.slice none 0 0) (.slice none 0 0) := ⟨Kd.R_nil _ _ _ _ _, Kd.R_nil _ _ _ _ _, Kd.R_nil _ _ _ _ _⟩
end Go.Proofs.YtcfgmkmllcfjjaaGreatDoor
