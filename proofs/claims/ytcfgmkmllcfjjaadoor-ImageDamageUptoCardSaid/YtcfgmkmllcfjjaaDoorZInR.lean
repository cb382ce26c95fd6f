import Derived.Test.YtcfgmkmllcfjjaaDoorZBulk
import Derived.Test.YtcfgmkmllcfjjaaDoorZInP
import Derived.ChangeArms
import Derived.DataReads
import Derived.Lib.LaidTab
set_option linter.unusedVariables false
set_option linter.unusedSimpArgs false
namespace Go.Proofs.YtcfgmkmllcfjjaaDoor
open Go.RowKit Go.Proofs.YtcfgmkmllcfjjaaDoorW.PrintWords PImageForm
section
variable {H : Type} {enc : TypeId × Value → H} {w : World} {base : Nat} {spare : Nat → Bool} {held : Bool} {B : Nat}
theorem add_add' (a : Addr) (m i : Nat) : (a.add m).add i = a.add (m + i) := by
  unfold Addr.add
  by_cases hi : i = 0
  · subst hi; simp
  · by_cases hm : m = 0
    · subst hm; simp [hi]
    · rw [if_neg hi, if_neg hm, if_neg (by omega)]
      simp [Nat.add_assoc]
theorem slice_open {α : Type} {d : Kd α} {S : α → Prop} {t e : TypeId} {fuel : Nat} {cs : List Value} {x : DataW H × List MemPlace} (ht : Tryd.prog.underlying t = some (.slice e)) (hsz : Tryd.prog.cellsOf e = d.sz) (hB : Rows.uptoBulk x.1 ≤ B) (hBm : B ≤ 1048576)
    (h : DataW.trod enc Tryd.prog w base spare held fuel t cs = some x) (he : ∀ n cs' (y : DataW H × List MemPlace), Rows.uptoBulk y.1 ≤ B → DataW.trod enc Tryd.prog w base spare held n e cs' = some y → ∃ v, d.K w v cs' ∧ S v) :
    ∃ (A : Option Addr) (xs : List α) (cap : Nat), cs = [.slice A xs.length cap] ∧ xs.length ≤ cap ∧ xs.length ≤ 1048576 ∧ d.C w A xs.length xs ∧ ∀ x ∈ xs, S x := by
  rcases DataW.trod_slice ht h with ⟨rfl, _⟩ | ⟨a, len, cap, elems, rest, n, rfl, rfl, hx, hb, hl, hm, hlen, hel, _, _⟩
  · exact ⟨none, [], 0, rfl, Nat.le_refl _, Nat.zero_le _, Kd.C_nil _ _, by simp⟩
  · have hx1 : x.1 = .slice (elems.map (·.1)) (rest.map (·.1)) := congrArg Prod.fst hx
    rw [hx1] at hB
    have hall := bulks.slice_elems (elems.map (·.1)) (rest.map (·.1))
    have hlen2 := bulks.length_le (elems.map (·.1))
    rw [List.length_map] at hlen2
    have hch : ∀ i : Fin len, ∃ v, (∃ cs', (w.cells? base (a.add (i.1 * d.sz)) d.sz) = some cs' ∧ d.K w v cs') ∧ S v := by
      intro i
      have h1 := hel i.1 i.2
      rw [hsz] at h1
      rw [List.getElem?_eq_getElem (by omega)] at h1
      obtain ⟨cs', h2, h3⟩ := Option.bind_eq_some_iff.1 h1
      have h6 := bulks.part_le (l := elems.map (·.1)) (List.mem_map.2 ⟨elems[i.1]'(by omega), List.getElem_mem _, rfl⟩)
      obtain ⟨v, h4, h5⟩ := he n cs' _ (by omega) h3
      exact ⟨v, ⟨cs', h2, h4⟩, h5⟩
    obtain ⟨F, hF⟩ := Classical.axiomOfChoice hch
    have hll : (List.ofFn F).length = len := List.length_ofFn
    refine ⟨some a, List.ofFn F, cap, by rw [hll], by omega, by omega, ⟨rfl, by rw [hll]; omega, fun _ => ⟨a, rfl, fun j p hj => ?_⟩⟩, ?_⟩
    · obtain ⟨hjl, hjp⟩ := List.getElem?_eq_some_iff.1 hj
      rw [hll] at hjl
      rw [List.getElem_ofFn] at hjp
      subst hjp
      obtain ⟨⟨cs', h2, h4⟩, _⟩ := hF ⟨j, hjl⟩
      refine ⟨cs', d.K_len h4, h4, fun i u hu => ?_⟩
      obtain ⟨_, h6, h7⟩ := World.cells?_some h2
      have hil := (List.getElem?_eq_some_iff.1 hu).1
      rw [← hu, ← h7 i (by omega), add_add']
    · intro x hx
      obtain ⟨i, rfl⟩ := List.mem_ofFn.1 hx
      exact (hF i).2
theorem c2 : Tryd.prog.cellsOf 2 = 1 := by kernel_rfl
theorem c3 : Tryd.prog.cellsOf 3 = 1 := by kernel_rfl
theorem c4 : Tryd.prog.cellsOf 4 = 1 := by kernel_rfl
theorem c5 : Tryd.prog.cellsOf 5 = 1 := by kernel_rfl
theorem c9 : Tryd.prog.cellsOf 9 = 1 := by kernel_rfl
theorem c23 : Tryd.prog.cellsOf 23 = 2 := by kernel_rfl
theorem c24 : Tryd.prog.cellsOf 24 = 1 := by kernel_rfl
theorem c25 : Tryd.prog.cellsOf 25 = 1 := by kernel_rfl
theorem c26 : Tryd.prog.cellsOf 26 = 1 := by kernel_rfl
theorem c28 : Tryd.prog.cellsOf 28 = 7 := by kernel_rfl
theorem c57 : Tryd.prog.cellsOf 57 = 4 := by kernel_rfl
theorem c61 : Tryd.prog.cellsOf 61 = 2 := by kernel_rfl
theorem c62 : Tryd.prog.cellsOf 62 = 1 := by kernel_rfl
theorem c64 : Tryd.prog.cellsOf 64 = 2 := by kernel_rfl
theorem c66 : Tryd.prog.cellsOf 66 = 4 := by kernel_rfl
theorem c67 : Tryd.prog.cellsOf 67 = 1 := by kernel_rfl
theorem c69 : Tryd.prog.cellsOf 69 = 3 := by kernel_rfl
theorem c71 : Tryd.prog.cellsOf 71 = 5 := by kernel_rfl
theorem field_open {fs : Array Field} {xs : List (DataW H × List MemPlace)} {n : Nat} {cs : List Value} (hl : xs.length = fs.size) (hB : Rows.uptoBulk (.agg (xs.map (·.1))) ≤ B)
    (hf : ∀ (i : Nat) (f : Field), fs[i]? = some f → DataW.trod enc Tryd.prog w base spare held n f.type ((cs.drop f.offset).take (Tryd.prog.cellsOf f.type)) = xs[i]?) (i : Nat) (f : Field) (h : fs[i]? = some f) :
    ∃ y, DataW.trod enc Tryd.prog w base spare held n f.type ((cs.drop f.offset).take (Tryd.prog.cellsOf f.type)) = some y ∧ Rows.uptoBulk y.1 ≤ B := by
  have hi : i < fs.size := (Array.getElem?_eq_some_iff.1 h).1
  refine ⟨xs[i]'(by omega), by rw [hf i f h]; exact List.getElem?_eq_getElem (by omega), ?_⟩
  have h6 := bulks.part_le (l := xs.map (·.1)) (List.mem_map.2 ⟨xs[i]'(by omega), List.getElem_mem _, rfl⟩)
  simp only [Rows.uptoBulk] at hB
  omega
theorem int_I64 {n : Int} (h : (Lit.int .i64 n).wf = true) : I64 n := by
  simp only [Lit.wf, Bool.and_eq_true, decide_eq_true_eq] at h
  exact ⟨h.1, h.2⟩
theorem u8_byte {n : Int} (h : (Lit.int .u8 n).wf = true) : 0 ≤ n ∧ n < 256 := by
  simp only [Lit.wf, Bool.and_eq_true, decide_eq_true_eq] at h
  have h2 : n ≤ 255 := h.2
  exact ⟨h.1, by omega⟩
theorem attr_open {fuel : Nat} {cs : List Value} {x : DataW H × List MemPlace} (hB : Rows.uptoBulk x.1 ≤ B) (h : DataW.trod enc Tryd.prog w base spare held fuel 61 cs = some x) : ∃ v : S61, k61.K w v cs ∧ True := by
  obtain ⟨xs, n, rfl, hx, hlen, hl, hf⟩ := DataW.trod_struct Tryd.underlying61 h
  rw [c61] at hlen
  rw [hx] at hB
  obtain ⟨y0, g0, _⟩ := field_open hl hB hf 0 _ rfl
  obtain ⟨y1, g1, _⟩ := field_open hl hB hf 1 _ rfl
  rcases cs with _ | ⟨a0, _ | ⟨a1, _ | ⟨a2, t⟩⟩⟩ <;> simp at hlen
  obtain ⟨s0, e0, _⟩ := DataW.trod_string Tryd.underlying9 g0
  obtain ⟨n1, e1, _⟩ := DataW.trod_int Tryd.underlying3 g1
  simp [c3, c9] at e0 e1
  subst e0; subst e1
  exact ⟨⟨s0, n1⟩, k61_mk w ⟨s0, n1⟩, trivial⟩
theorem type_open (hBm : B ≤ 1048576) {fuel : Nat} {cs : List Value} {x : DataW H × List MemPlace} (hB : Rows.uptoBulk x.1 ≤ B) (h : DataW.trod enc Tryd.prog w base spare held fuel 64 cs = some x) : ∃ v : S64, k64.K w v cs ∧ v.f1.length ≤ 1048576 := by
  obtain ⟨xs, n, rfl, hx, hlen, hl, hf⟩ := DataW.trod_struct Tryd.underlying64 h
  rw [c64] at hlen
  rw [hx] at hB
  obtain ⟨y0, g0, _⟩ := field_open hl hB hf 0 _ rfl
  obtain ⟨y1, g1, b1⟩ := field_open hl hB hf 1 _ rfl
  rcases cs with _ | ⟨a0, _ | ⟨a1, _ | ⟨a2, t⟩⟩⟩ <;> simp at hlen
  obtain ⟨s0, e0, _⟩ := DataW.trod_string Tryd.underlying9 g0
  obtain ⟨A, ys, cap, e1, hc, hs, hC, _⟩ := slice_open (d := k61) (S := fun _ => True) Tryd.underlying62 c61 b1 hBm g1 (fun m cs' y hb hy => attr_open hb hy)
  simp [c9, c62] at e0 e1
  subst e0; subst e1
  exact ⟨⟨s0, ys⟩, k64_mk w ⟨s0, ys⟩ hc hC, hs⟩
theorem saved_open {fuel : Nat} {cs : List Value} {x : DataW H × List MemPlace} (hB : Rows.uptoBulk x.1 ≤ B) (h : DataW.trod enc Tryd.prog w base spare held fuel 57 cs = some x) : ∃ v : S57, k57.K w v cs ∧ I64 v.f2 := by
  obtain ⟨xs, n, rfl, hx, hlen, hl, hf⟩ := DataW.trod_struct Tryd.underlying57 h
  rw [c57] at hlen
  rw [hx] at hB
  obtain ⟨y0, g0, _⟩ := field_open hl hB hf 0 _ rfl
  obtain ⟨y1, g1, _⟩ := field_open hl hB hf 1 _ rfl
  obtain ⟨y2, g2, _⟩ := field_open hl hB hf 2 _ rfl
  obtain ⟨y3, g3, _⟩ := field_open hl hB hf 3 _ rfl
  rcases cs with _ | ⟨a0, _ | ⟨a1, _ | ⟨a2, _ | ⟨a3, _ | ⟨a4, t⟩⟩⟩⟩⟩ <;> simp at hlen
  obtain ⟨s0, e0, _⟩ := DataW.trod_string Tryd.underlying9 g0
  obtain ⟨s1, e1, _⟩ := DataW.trod_string Tryd.underlying9 g1
  obtain ⟨n2, e2, _, w2⟩ := DataW.trod_int Tryd.underlying2 g2
  obtain ⟨b3, e3, _⟩ := DataW.trod_bool Tryd.underlying4 g3
  simp [c2, c9, c4] at e0 e1 e2 e3
  subst e0; subst e1; subst e2; subst e3
  exact ⟨⟨s0, s1, n2, b3⟩, k57_mk w ⟨s0, s1, n2, b3⟩, int_I64 w2⟩
theorem val_open {fuel : Nat} {cs : List Value} {x : DataW H × List MemPlace} (hB : Rows.uptoBulk x.1 ≤ B) (h : DataW.trod enc Tryd.prog w base spare held fuel 66 cs = some x) : ∃ v : S66, k66.K w v cs ∧ I64 v.f1 := by
  obtain ⟨xs, n, rfl, hx, hlen, hl, hf⟩ := DataW.trod_struct Tryd.underlying66 h
  rw [c66] at hlen
  rw [hx] at hB
  obtain ⟨y0, g0, _⟩ := field_open hl hB hf 0 _ rfl
  obtain ⟨y1, g1, _⟩ := field_open hl hB hf 1 _ rfl
  obtain ⟨y2, g2, _⟩ := field_open hl hB hf 2 _ rfl
  obtain ⟨y3, g3, _⟩ := field_open hl hB hf 3 _ rfl
  rcases cs with _ | ⟨a0, _ | ⟨a1, _ | ⟨a2, _ | ⟨a3, _ | ⟨a4, t⟩⟩⟩⟩⟩ <;> simp at hlen
  obtain ⟨n0, e0, _⟩ := DataW.trod_int Tryd.underlying3 g0
  obtain ⟨n1, e1, _, w1⟩ := DataW.trod_int Tryd.underlying2 g1
  obtain ⟨s2, e2, _⟩ := DataW.trod_string Tryd.underlying9 g2
  obtain ⟨b3, e3, _⟩ := DataW.trod_bool Tryd.underlying4 g3
  simp [c2, c3, c9, c4] at e0 e1 e2 e3
  subst e0; subst e1; subst e2; subst e3
  exact ⟨⟨n0, n1, s2, b3⟩, k66_mk w ⟨n0, n1, s2, b3⟩, int_I64 w1⟩
theorem event_open (hBm : B ≤ 1048576) {fuel : Nat} {cs : List Value} {x : DataW H × List MemPlace} (hB : Rows.uptoBulk x.1 ≤ B) (h : DataW.trod enc Tryd.prog w base spare held fuel 69 cs = some x) :
    ∃ (s0 : ByteArray) (n1 : Int) (ys : List S66) (A : Option Addr) (c : Nat), cs = [.string s0, .int .i64 n1, .slice A ys.length c] ∧ ys.length ≤ c ∧ k66.C w A ys.length ys ∧ ys.length ≤ 1048576 ∧ ∀ y ∈ ys, I64 y.f1 := by
  obtain ⟨xs, n, rfl, hx, hlen, hl, hf⟩ := DataW.trod_struct Tryd.underlying69 h
  rw [c69] at hlen
  rw [hx] at hB
  obtain ⟨y0, g0, _⟩ := field_open hl hB hf 0 _ rfl
  obtain ⟨y1, g1, _⟩ := field_open hl hB hf 1 _ rfl
  obtain ⟨y2, g2, b2⟩ := field_open hl hB hf 2 _ rfl
  rcases cs with _ | ⟨a0, _ | ⟨a1, _ | ⟨a2, _ | ⟨a3, t⟩⟩⟩⟩ <;> simp at hlen
  obtain ⟨s0, e0, _⟩ := DataW.trod_string Tryd.underlying9 g0
  obtain ⟨n1, e1, _⟩ := DataW.trod_int Tryd.underlying2 g1
  obtain ⟨A, ys, cap, e2, hc, hs, hC, hS⟩ := slice_open (d := k66) (S := fun v => I64 v.f1) Tryd.underlying67 c66 b2 hBm g2 (fun m cs' y hb hy => val_open hb hy)
  simp [c2, c9, c67] at e0 e1 e2
  subst e0; subst e1; subst e2
  exact ⟨s0, n1, ys, A, cap, rfl, hc, hC, hs, hS⟩
theorem seen_open (hBm : B ≤ 1048576) {fuel : Nat} {cs : List Value} {x : DataW H × List MemPlace} (hB : Rows.uptoBulk x.1 ≤ B) (h : DataW.trod enc Tryd.prog w base spare held fuel 71 cs = some x) : ∃ v : S71, k71.K w v cs ∧ v.f1.f2.length ≤ 1048576 ∧ ∀ y ∈ v.f1.f2, I64 y.f1 := by
  obtain ⟨xs, n, rfl, hx, hlen, hl, hf⟩ := DataW.trod_struct Tryd.underlying71 h
  rw [c71] at hlen
  rw [hx] at hB
  obtain ⟨y0, g0, _⟩ := field_open hl hB hf 0 _ rfl
  obtain ⟨y1, g1, b1⟩ := field_open hl hB hf 1 _ rfl
  obtain ⟨y2, g2, _⟩ := field_open hl hB hf 2 _ rfl
  rcases cs with _ | ⟨a0, _ | ⟨a1, _ | ⟨a2, _ | ⟨a3, _ | ⟨a4, _ | ⟨a5, t⟩⟩⟩⟩⟩⟩ <;> simp at hlen
  obtain ⟨n0, e0, _⟩ := DataW.trod_int Tryd.underlying2 g0
  obtain ⟨s0, n1, ys, A, c, e1, hc, hC, hs, hS⟩ := event_open hBm b1 g1
  obtain ⟨b2', e2, _⟩ := DataW.trod_bool Tryd.underlying4 g2
  simp [c2, c69, c4] at e0 e1 e2
  obtain ⟨rfl, rfl, rfl⟩ := e1
  subst e0; subst e2
  exact ⟨⟨n0, ⟨s0, n1, ys⟩, b2'⟩, k71_mk w ⟨n0, ⟨s0, n1, ys⟩, b2'⟩ hc hC, hs, hS⟩
theorem opts_open {fuel : Nat} {cs : List Value} {x : DataW H × List MemPlace} (hB : Rows.uptoBulk x.1 ≤ B) (h : DataW.trod enc Tryd.prog w base spare held fuel 23 cs = some x) : ∃ n0 n1, cs = [.int .i64 n0, .int .i64 n1] ∧ I64 n0 ∧ I64 n1 := by
  obtain ⟨xs, n, rfl, hx, hlen, hl, hf⟩ := DataW.trod_struct Tryd.underlying23 h
  rw [c23] at hlen
  rw [hx] at hB
  obtain ⟨y0, g0, _⟩ := field_open hl hB hf 0 _ rfl
  obtain ⟨y1, g1, _⟩ := field_open hl hB hf 1 _ rfl
  rcases cs with _ | ⟨a0, _ | ⟨a1, _ | ⟨a2, t⟩⟩⟩ <;> simp at hlen
  obtain ⟨n0, e0, _, w0⟩ := DataW.trod_int Tryd.underlying3 g0
  obtain ⟨n1, e1, _, w1⟩ := DataW.trod_int Tryd.underlying3 g1
  simp [c3] at e0 e1
  subst e0; subst e1
  exact ⟨n0, n1, rfl, int_I64 w0, int_I64 w1⟩
theorem image_open {fuel : Nat} {cs : List Value} {x : DataW H × List MemPlace} (hB : Rows.uptoBulk x.1 ≤ 1048576) (h : DataW.trod enc Tryd.prog w base spare held fuel 28 cs = some x) :
    ∃ (m : Img) (A4 A5 A6 : Option Addr) (q4 q5 q6 : Nat), cs = [.int .i64 m.runs, .int .i64 m.made, .int .i64 m.seq, .int .i64 m.now, .slice A4 m.types.length q4, .slice A5 m.saved.length q5, .slice A6 m.seens.length q6] ∧
      ImgI m ∧ ImgB m ∧ ImgV w m A4 q4 A5 q5 A6 q6 ∧ m.seens.length ≤ 1048576 := by
  obtain ⟨xs, n, rfl, hx, hlen, hl, hf⟩ := DataW.trod_struct Tryd.underlying28 h
  rw [c28] at hlen
  rw [hx] at hB
  obtain ⟨y0, g0, b0⟩ := field_open hl hB hf 0 _ rfl
  obtain ⟨y1, g1, b1⟩ := field_open hl hB hf 1 _ rfl
  obtain ⟨y2, g2, b2⟩ := field_open hl hB hf 2 _ rfl
  obtain ⟨y3, g3, b3⟩ := field_open hl hB hf 3 _ rfl
  obtain ⟨y4, g4, b4⟩ := field_open hl hB hf 4 _ rfl
  obtain ⟨y5, g5, b5⟩ := field_open hl hB hf 5 _ rfl
  rcases cs with _ | ⟨a0, _ | ⟨a1, _ | ⟨a2, _ | ⟨a3, _ | ⟨a4, _ | ⟨a5, _ | ⟨a6, _ | ⟨a7, t⟩⟩⟩⟩⟩⟩⟩⟩ <;> simp at hlen
  obtain ⟨n0, n1, e0, i0, i1⟩ := opts_open b0 g0
  obtain ⟨n2, e1, _, w1⟩ := DataW.trod_int Tryd.underlying2 g1
  obtain ⟨n3, e2, _, w2⟩ := DataW.trod_int Tryd.underlying2 g2
  obtain ⟨A4, ts, q4, e3, h4, l4, C4, S4⟩ := slice_open (d := k64) (S := fun v : S64 => v.f1.length ≤ 1048576) Tryd.underlying24 c64 b3 (Nat.le_refl _) g3 (fun m cs' y hb hy => type_open (Nat.le_refl _) hb hy)
  obtain ⟨A5, qs, q5, e4, h5, l5, C5, S5⟩ := slice_open (d := k57) (S := fun v : S57 => I64 v.f2) Tryd.underlying25 c57 b4 (Nat.le_refl _) g4 (fun m cs' y hb hy => saved_open hb hy)
  obtain ⟨A6, ss, q6, e5, h6, l6, C6, S6⟩ := slice_open (d := k71) (S := fun v : S71 => v.f1.f2.length ≤ 1048576 ∧ ∀ y ∈ v.f1.f2, I64 y.f1) Tryd.underlying26 c71 b5 (Nat.le_refl _) g5 (fun m cs' y hb hy => seen_open (Nat.le_refl _) hb hy)
  simp [c2, c23, c24, c25, c26] at e0 e1 e2 e3 e4 e5
  obtain ⟨rfl, rfl⟩ := e0
  subst e1; subst e2; subst e3; subst e4; subst e5
  refine ⟨⟨n0, n1, n2, n3, ts, qs, ss⟩, A4, A5, A6, q4, q5, q6, rfl, ⟨i0, i1, int_I64 w1, int_I64 w2, S5, fun x hx => (S6 x hx).2, ?_, ?_, ?_, ?_, ?_⟩, imgB_of ?_ ?_ ?_ ?_ ?_, ⟨⟨C4, h4⟩, ⟨C5, h5⟩, ⟨C6, h6⟩⟩, l6⟩
  · show ts.length ≤ _; omega
  · show qs.length ≤ _; omega
  · show ss.length ≤ _; omega
  · exact fun x hx => Nat.le_trans (S4 x hx) (by decide)
  · exact fun x hx => Nat.le_trans (S6 x hx).1 (by decide)
  · show ts.length ≤ _; omega
  · show qs.length ≤ _; omega
  · show ss.length ≤ _; omega
  · exact fun x hx => Nat.le_trans (S4 x hx) (by decide)
  · exact fun x hx => Nat.le_trans (S6 x hx).1 (by decide)
theorem bytes_open {fuel : Nat} {cs : List Value} {x : DataW H × List MemPlace} (hB : Rows.uptoBulk x.1 ≤ 1048576) (h : DataW.trod enc Tryd.prog w base spare held fuel 29 cs = some x) :
    ∃ (L : List Int) (A : Option Addr) (c : Nat), cs = [.slice A L.length c] ∧ BytesAt w A c L ∧ Bytes L ∧ L.length ≤ 1048576 := by
  obtain ⟨A, L, c, e, hc, hl, hC, hS⟩ := slice_open (d := Kd.int .u8) (S := fun v => 0 ≤ v ∧ v < 256) Tryd.underlying29 c5 hB (Nat.le_refl _) h (fun m cs' y hb hy => by
    obtain ⟨n, e, _, hw⟩ := DataW.trod_int Tryd.underlying5 hy
    exact ⟨n, e, u8_byte hw⟩)
  exact ⟨L, A, c, e, ⟨hC, hc⟩, hS, hl⟩
end
theorem cells_of_strs {H : Type} {enc : TypeId × Value → H} {P : Program} {w : World} {base : Nat} {sp : Nat → Bool} {held : Bool} {fuel : Nat} {t e : TypeId} {n : Nat} {cs : List Value} {zs : List (List UInt8)} {p : List MemPlace}
    (ht : P.underlying t = some (.array n e)) (he : P.underlying e = some .string) (hce : P.cellsOf e = 1) (hct : P.cellsOf t = n)
    (h : DataW.trod enc P w base sp held fuel t cs = some (.agg (zs.map fun z => .lit (.string z)), p)) : cs = zs.map fun z => Value.string ⟨z.toArray⟩ := by
  cases fuel with
  | zero => simp [DataW.trod] at h
  | succ fuel =>
    simp only [DataW.trod, ht, hce, hct, Nat.mul_one] at h
    split at h
    · rename_i hl
      obtain ⟨xs, hm, hx⟩ := Option.map_eq_some_iff.1 h
      have hxs : xs.map (·.1) = zs.map fun z => (DataW.lit (.string z) : DataW H) := by
        have := congrArg Prod.fst hx
        simpa using this
      have hxl : xs.length = n := by simpa using Lib.mapM_length hm
      have hzl : zs.length = n := by
        have := congrArg List.length hxs
        simp at this
        omega
      apply List.ext_getElem?
      intro i
      by_cases hi : i < n
      · obtain ⟨b, hb, hf⟩ := Lib.mapM_at hm i i (by simp [hi])
        obtain ⟨z, hc, rfl, _⟩ := DataW.trod_string he hf
        have h1 : cs[i]? = some (.string z) := by
          have := congrArg (·[0]?) hc
          simpa [List.getElem?_take, List.getElem?_drop] using this
        have h2 : (xs.map (·.1))[i]? = some (DataW.lit (.string z.data.toList) : DataW H) := by simp [hb]
        rw [hxs] at h2
        simp only [List.getElem?_map, Option.map_eq_some_iff, DataW.lit.injEq, Lit.string.injEq] at h2
        obtain ⟨z', hz', rfl⟩ := h2
        simp [h1, hz']
      · rw [List.getElem?_eq_none (by omega), List.getElem?_eq_none (by simp; omega)]
    · cases h
theorem gWords : Tryd.prog.globalNamed "refrain/schema.words" = some 0 := by kernel_rfl
theorem gWordsType : (Tryd.prog.globals[0]?).map (·.type) = some 77 := by kernel_rfl
theorem c77 : Tryd.prog.cellsOf 77 = 16 := by kernel_rfl
def wordsZ : List (List UInt8) := [[80, 65, 84, 84, 69, 82, 78], [83, 69, 81], [80, 65, 82, 84, 73, 84, 73, 79, 78], [66, 89], [87, 72, 69, 82, 69], [87, 73, 84, 72, 73, 78], [82, 69, 84, 85, 82, 78], [65, 78, 68], [79, 82], [78, 79, 84], [84, 82, 85, 69], [70, 65, 76, 83, 69], [84, 89, 80, 69], [73, 78, 84], [83, 84, 82], [66, 79, 79, 76]]
theorem words_laid {W : World} (h : laidMetH Tryd.prog Rows.imageFormRow.laid W) : GW W := by
  have h2 : laidMet Tryd.prog Rows.imageFormRow.laid W := h
  obtain ⟨ps, ⟨g', t', cs, fuel, p, q, hg', ht', hvar, hd, _, _⟩, _⟩ := h2
  obtain rfl := Option.some.inj (gWords.symm.trans hg')
  obtain rfl := Option.some.inj (gWordsType.symm.trans ht')
  have hcs := cells_of_strs (zs := wordsZ) Tryd.underlying77 Tryd.underlying9 c9 c77 hd
  unfold World.var? at hvar
  rw [gWords] at hvar
  simp only [Option.bind_some] at hvar
  cases hh : W.heap[0]? with
  | none => rw [hh] at hvar; cases hvar
  | some o =>
    rw [hh] at hvar
    cases o with
    | cells c t fr =>
      simp only [Option.some.injEq] at hvar
      have hw : c = wordsV := by
        rw [hvar]
        exact Array.ext' hcs
      exact ⟨t, fr, by rw [← hw]; exact hh⟩
    | _ => cases hvar
end Go.Proofs.YtcfgmkmllcfjjaaDoor
