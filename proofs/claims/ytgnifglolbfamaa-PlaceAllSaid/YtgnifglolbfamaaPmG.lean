/- How a query and an expression that are handed in read: out of the row's own words. -/
import Derived.Test.YtgnifglolbfamaaPmF
import Derived.ChangeArms
import Derived.DataReads
set_option linter.unusedVariables false
set_option linter.unusedSimpArgs false
namespace Go.Proofs.Ytgnifglolbfamaa
open Go.RowKit Go.Proofs.YtgnifglolbfamaaW.PrintWords
section
variable {H : Type} {enc : TypeId × Value → H} {w : World} {base : Nat} {spare : Nat → Bool} {held : Bool}

theorem add_add' (a : Addr) (m i : Nat) : (a.add m).add i = a.add (m + i) := by
  unfold Addr.add
  by_cases hi : i = 0
  · subst hi; simp
  · by_cases hm : m = 0
    · subst hm; simp [hi]
    · rw [if_neg hi, if_neg hm, if_neg (by omega)]
      simp [Nat.add_assoc]
theorem slice_open {α : Type} {d : Kd α} {S : α → Prop} {t e : TypeId} {fuel : Nat} {cs : List Value} {x : DataW H × List MemPlace} (ht : Try.prog.underlying t = some (.slice e)) (hsz : Try.prog.cellsOf e = d.sz)
    (h : DataW.trod enc Try.prog w base spare held fuel t cs = some x) (he : ∀ n cs' y, n < fuel → DataW.trod enc Try.prog w base spare held n e cs' = some y → ∃ v, d.K w v cs' ∧ S v) :
    ∃ (A : Option Addr) (xs : List α) (cap : Nat), cs = [.slice A xs.length cap] ∧ xs.length ≤ cap ∧ d.C w A xs.length xs ∧ ∀ x ∈ xs, S x := by
  rcases DataW.trod_slice ht h with ⟨rfl, _⟩ | ⟨a, len, cap, elems, rest, n, rfl, rfl, _, hb, hl, hm, hlen, hel, _, _⟩
  · exact ⟨none, [], 0, rfl, Nat.le_refl _, Kd.C_nil _ _, by simp⟩
  · have hch : ∀ i : Fin len, ∃ v, (∃ cs', (w.cells? base (a.add (i.1 * d.sz)) d.sz) = some cs' ∧ d.K w v cs') ∧ S v := by
      intro i
      have h1 := hel i.1 i.2
      rw [hsz] at h1
      rw [List.getElem?_eq_getElem (by omega)] at h1
      obtain ⟨cs', h2, h3⟩ := Option.bind_eq_some_iff.1 h1
      obtain ⟨v, h4, h5⟩ := he n cs' _ (by omega) h3
      exact ⟨v, ⟨cs', h2, h4⟩, h5⟩
    obtain ⟨F, hF⟩ := Classical.axiomOfChoice hch
    have hll : (List.ofFn F).length = len := List.length_ofFn
    refine ⟨some a, List.ofFn F, cap, by rw [hll], by omega, ⟨rfl, by rw [hll]; simp only [maxLen] at hm; omega, fun _ => ⟨a, rfl, fun j p hj => ?_⟩⟩, ?_⟩
    · obtain ⟨hjl, hjp⟩ := List.getElem?_eq_some_iff.1 hj
      rw [hll] at hjl
      rw [List.getElem_ofFn] at hjp
      subst hjp
      obtain ⟨⟨cs', h2, h4⟩, _⟩ := hF ⟨j, hjl⟩
      refine ⟨cs', d.K_len h4, h4, fun i u hu => ?_⟩
      obtain ⟨_, h6, h7⟩ := World.cells?_some h2
      have hil := (List.getElem?_eq_some_iff.1 hu).1
      rw [← hu, ← h7 i (by omega), add_add']
    · intro x hx
      obtain ⟨i, rfl⟩ := List.mem_ofFn.1 hx
      exact (hF i).2

theorem len1 {l : List Value} (h : l.length = 1) : ∃ a, l = [a] := by
  rcases l with _ | ⟨a, _ | ⟨b, t⟩⟩
  · simp at h
  · exact ⟨a, rfl⟩
  · simp at h
theorem c2 : Try.prog.cellsOf 2 = 1 := by kernel_rfl
theorem c3 : Try.prog.cellsOf 3 = 1 := by kernel_rfl
theorem c4 : Try.prog.cellsOf 4 = 1 := by kernel_rfl
theorem c9 : Try.prog.cellsOf 9 = 1 := by kernel_rfl
theorem c22 : Try.prog.cellsOf 22 = 1 := by kernel_rfl
theorem c23 : Try.prog.cellsOf 23 = 1 := by kernel_rfl
theorem c24 : Try.prog.cellsOf 24 = 1 := by kernel_rfl
theorem c25 : Try.prog.cellsOf 25 = 1 := by kernel_rfl
theorem c27 : Try.prog.cellsOf 27 = 8 := by kernel_rfl
theorem c29 : Try.prog.cellsOf 29 = 4 := by kernel_rfl
theorem c31 : Try.prog.cellsOf 31 = 10 := by kernel_rfl
theorem c46 : Try.prog.cellsOf 46 = 4 := by kernel_rfl
theorem c87 : Try.prog.cellsOf 87 = 11 := by kernel_rfl

/-- A struct's field's reading. -/
theorem field_open {fs : Array Field} {xs : List (DataW H × List MemPlace)} {n : Nat} {cs : List Value} (hl : xs.length = fs.size)
    (hf : ∀ (i : Nat) (f : Field), fs[i]? = some f → DataW.trod enc Try.prog w base spare held n f.type ((cs.drop f.offset).take (Try.prog.cellsOf f.type)) = xs[i]?) (i : Nat) (f : Field) (h : fs[i]? = some f) :
    ∃ y, DataW.trod enc Try.prog w base spare held n f.type ((cs.drop f.offset).take (Try.prog.cellsOf f.type)) = some y := by
  have hi : i < fs.size := (Array.getElem?_eq_some_iff.1 h).1
  exact ⟨xs[i]'(by omega), by rw [hf i f h]; exact List.getElem?_eq_getElem (by omega)⟩

theorem val_open {fuel : Nat} {cs : List Value} {x : DataW H × List MemPlace} (h : DataW.trod enc Try.prog w base spare held fuel 29 cs = some x) : ∃ v : Val, cs = [.int .i64 v.f0, .int .i64 v.f1, .string v.f2, .bool v.f3] := by
  obtain ⟨xs, n, rfl, _, hlen, hl, hf⟩ := DataW.trod_struct Try.underlying29 h
  rw [c29] at hlen
  obtain ⟨y0, g0⟩ := field_open hl hf 0 _ rfl
  obtain ⟨y1, g1⟩ := field_open hl hf 1 _ rfl
  obtain ⟨y2, g2⟩ := field_open hl hf 2 _ rfl
  obtain ⟨y3, g3⟩ := field_open hl hf 3 _ rfl
  rcases cs with _ | ⟨a0, _ | ⟨a1, _ | ⟨a2, _ | ⟨a3, _ | ⟨a4, t⟩⟩⟩⟩⟩ <;> simp at hlen
  obtain ⟨n0, e0, _⟩ := DataW.trod_int Try.underlying3 g0
  obtain ⟨n1, e1, _⟩ := DataW.trod_int Try.underlying2 g1
  obtain ⟨s2, e2, _⟩ := DataW.trod_string Try.underlying9 g2
  obtain ⟨b3, e3, _⟩ := DataW.trod_bool Try.underlying4 g3
  simp [c3, c2, c9, c4] at e0 e1 e2 e3
  subst e0; subst e1; subst e2; subst e3
  exact ⟨⟨n0, n1, s2, b3⟩, rfl⟩

def NmX (x : Ex) : Prop := ∀ r ∈ refsOf x, r.f0.size ≤ maxLen
theorem nm_kids : ∀ (l : List Ex), (∀ x ∈ l, NmX x) → ∀ y ∈ spkL l, (refOf y).f0.size ≤ maxLen
  | [], _, y, hy => by simp [spkL] at hy
  | x :: l, h, y, hy => by
    simp only [spkL, List.mem_append] at hy
    rcases hy with hy | hy
    · exact h x List.mem_cons_self _ (List.mem_map.2 ⟨y, hy, rfl⟩)
    · exact nm_kids l (fun z hz => h z (List.mem_cons_of_mem _ hz)) y hy
theorem nm_mk (x : Ex) (h1 : x.f3.size ≤ maxLen) (h2 : ∀ y ∈ x.f6, NmX y) : NmX x := by
  intro r hr
  unfold refsOf at hr
  obtain ⟨y, hy, rfl⟩ := List.mem_map.1 hr
  rw [spk_eq] at hy
  split at hy
  · simp at hy
  · split at hy
    · simp at hy
      subst hy
      exact h1
    · exact nm_kids _ h2 y hy

theorem ex_open : ∀ (fuel : Nat) (cs : List Value) (x : DataW H × List MemPlace), DataW.trod enc Try.prog w base spare held fuel 31 cs = some x → ∃ v : Ex, kEx.K w v cs ∧ NmX v := by
  intro fuel
  induction fuel using Nat.strongRecOn with
  | _ fuel ih =>
    intro cs x h
    obtain ⟨xs, n, rfl, _, hlen, hl, hf⟩ := DataW.trod_struct Try.underlying31 h
    rw [c31] at hlen
    obtain ⟨y0, g0⟩ := field_open hl hf 0 _ rfl
    obtain ⟨y1, g1⟩ := field_open hl hf 1 _ rfl
    obtain ⟨y2, g2⟩ := field_open hl hf 2 _ rfl
    obtain ⟨y3, g3⟩ := field_open hl hf 3 _ rfl
    obtain ⟨y4, g4⟩ := field_open hl hf 4 _ rfl
    obtain ⟨y5, g5⟩ := field_open hl hf 5 _ rfl
    obtain ⟨y6, g6⟩ := field_open hl hf 6 _ rfl
    rcases cs with _ | ⟨a0, _ | ⟨a1, _ | ⟨a2, _ | ⟨a3, _ | ⟨a4, _ | ⟨a5, _ | ⟨a6, _ | ⟨a7, _ | ⟨a8, _ | ⟨a9, _ | ⟨a10, t⟩⟩⟩⟩⟩⟩⟩⟩⟩⟩⟩ <;> simp at hlen
    obtain ⟨n0, e0, _⟩ := DataW.trod_int Try.underlying3 g0
    obtain ⟨n1, e1, _⟩ := DataW.trod_int Try.underlying3 g1
    obtain ⟨vv, e2⟩ := val_open g2
    obtain ⟨s3, e3, _, hs3⟩ := DataW.trod_string Try.underlying9 g3
    obtain ⟨n4, e4, _⟩ := DataW.trod_int Try.underlying3 g4
    obtain ⟨s5, e5, _⟩ := DataW.trod_string Try.underlying9 g5
    obtain ⟨A, kids, cap, e6, hc, hC, hS⟩ := slice_open (d := kEx) (S := NmX) Try.underlying24 c31 g6 (fun m cs' y hm hy => ih m (by omega) cs' y hy)
    simp [c3, c29, c9, c24] at e0 e1 e2 e3 e4 e5 e6
    obtain ⟨rfl, rfl, rfl, rfl⟩ := e2
    subst e0; subst e1; subst e3; subst e4; subst e5; subst e6
    exact ⟨⟨n0, n1, vv, s3, n4, s5, kids⟩, kEx_mk w ⟨n0, n1, vv, s3, n4, s5, kids⟩ hc hC, nm_mk _ hs3 hS⟩

theorem cp_open (fuel : Nat) (cs : List Value) (x : DataW H × List MemPlace) (h : DataW.trod enc Try.prog w base spare held fuel 46 cs = some x) : ∃ v : Cp, kCp.K w v cs ∧ v.f3.size ≤ maxLen := by
  obtain ⟨xs, n, rfl, _, hlen, hl, hf⟩ := DataW.trod_struct Try.underlying46 h
  rw [c46] at hlen
  obtain ⟨y0, g0⟩ := field_open hl hf 0 _ rfl
  obtain ⟨y1, g1⟩ := field_open hl hf 1 _ rfl
  obtain ⟨y2, g2⟩ := field_open hl hf 2 _ rfl
  obtain ⟨y3, g3⟩ := field_open hl hf 3 _ rfl
  rcases cs with _ | ⟨a0, _ | ⟨a1, _ | ⟨a2, _ | ⟨a3, _ | ⟨a4, t⟩⟩⟩⟩⟩ <;> simp at hlen
  obtain ⟨b0, e0, _⟩ := DataW.trod_bool Try.underlying4 g0
  obtain ⟨b1, e1, _⟩ := DataW.trod_bool Try.underlying4 g1
  obtain ⟨s2, e2, _⟩ := DataW.trod_string Try.underlying9 g2
  obtain ⟨s3, e3, _, hs⟩ := DataW.trod_string Try.underlying9 g3
  simp [c9, c4] at e0 e1 e2 e3
  subst e0; subst e1; subst e2; subst e3
  exact ⟨⟨b0, b1, s2, s3⟩, kCp_mk w ⟨b0, b1, s2, s3⟩, hs⟩

theorem it_open (fuel : Nat) (cs : List Value) (x : DataW H × List MemPlace) (h : DataW.trod enc Try.prog w base spare held fuel 87 cs = some x) : ∃ v : It, kIt.K w v cs ∧ True := by
  obtain ⟨xs, n, rfl, _, hlen, hl, hf⟩ := DataW.trod_struct Try.underlying87 h
  rw [c87] at hlen
  obtain ⟨y0, g0⟩ := field_open hl hf 0 _ rfl
  obtain ⟨y1, g1⟩ := field_open hl hf 1 _ rfl
  obtain ⟨s0, e0, _⟩ := DataW.trod_string Try.underlying9 g0
  obtain ⟨v, hK, _⟩ := ex_open _ _ _ g1
  obtain ⟨A9, c9', e, hl9, hC9⟩ := kEx_open hK
  rcases cs with _ | ⟨a, cs⟩
  · simp at hlen
  · simp [c9] at e0
    subst e0
    have ht : ((Value.string s0 :: cs).drop 1).take (Try.prog.cellsOf 31) = cs := by
      rw [c31]
      simp at hlen
      simp [List.take_of_length_le, hlen]
    have e' := ht.symm.trans e
    subst e'
    exact ⟨⟨s0, v⟩, kIt_mk w ⟨s0, v⟩ hl9 hC9, trivial⟩

theorem query_open {fuel : Nat} {cs : List Value} {x : DataW H × List MemPlace} (h : DataW.trod enc Try.prog w base spare held fuel 27 cs = some x) :
    ∃ (A : Option Addr) (comps : List Cp) (c : Nat) (q1 : ByteArray) (q2 : Int) (v3 : Value) (AW : Option Addr) (ws : List Ex) (cw : Nat) (q5 : Int) (q6 : ByteArray) (AI : Option Addr) (its : List It) (ci : Nat),
      cs = [.slice A comps.length c, .string q1, .int .i64 q2, v3, .slice AW ws.length cw, .int .i64 q5, .string q6, .slice AI its.length ci] ∧ v3.oneCell' = true ∧ comps.length ≤ c ∧ kCp.C w A comps.length comps ∧ (∀ x ∈ comps, x.f3.size ≤ maxLen) ∧
      kEx.C w AW ws.length ws ∧ (∀ x ∈ ws, NmX x) ∧ kIt.C w AI its.length its := by
  obtain ⟨xs, n, rfl, _, hlen, hl, hf⟩ := DataW.trod_struct Try.underlying27 h
  rw [c27] at hlen
  obtain ⟨y0, g0⟩ := field_open hl hf 0 _ rfl
  obtain ⟨y1, g1⟩ := field_open hl hf 1 _ rfl
  obtain ⟨y2, g2⟩ := field_open hl hf 2 _ rfl
  obtain ⟨y3, g3⟩ := field_open hl hf 3 _ rfl
  obtain ⟨y4, g4⟩ := field_open hl hf 4 _ rfl
  obtain ⟨y5, g5⟩ := field_open hl hf 5 _ rfl
  obtain ⟨y6, g6⟩ := field_open hl hf 6 _ rfl
  obtain ⟨y7, g7⟩ := field_open hl hf 7 _ rfl
  rcases cs with _ | ⟨a0, _ | ⟨a1, _ | ⟨a2, _ | ⟨a3, _ | ⟨a4, _ | ⟨a5, _ | ⟨a6, _ | ⟨a7, _ | ⟨a8, t⟩⟩⟩⟩⟩⟩⟩⟩⟩ <;> simp at hlen
  obtain ⟨A, comps, c, e0, hc0, hC0, hS0⟩ := slice_open (d := kCp) (S := fun v => v.f3.size ≤ maxLen) Try.underlying22 c46 g0 (fun m cs' y _ hy => cp_open m cs' y hy)
  obtain ⟨s1, e1, _⟩ := DataW.trod_string Try.underlying9 g1
  obtain ⟨n2, e2, _⟩ := DataW.trod_int Try.underlying3 g2
  have h3 : a3.oneCell' = true := by
    rcases DataW.trod_slice Try.underlying23 g3 with ⟨e, _⟩ | ⟨a, len, cap, _, _, _, _, e, _⟩
    · simp [c23] at e; subst e; rfl
    · simp [c23] at e; subst e; rfl
  obtain ⟨AW, ws, cw, e4, _, hC4, hS4⟩ := slice_open (d := kEx) (S := NmX) Try.underlying24 c31 g4 (fun m cs' y _ hy => ex_open m cs' y hy)
  obtain ⟨n5, e5, _⟩ := DataW.trod_int Try.underlying2 g5
  obtain ⟨s6, e6, _⟩ := DataW.trod_string Try.underlying9 g6
  obtain ⟨AI, its, ci, e7, _, hC7, _⟩ := slice_open (d := kIt) (S := fun _ => True) Try.underlying25 c87 g7 (fun m cs' y _ hy => it_open m cs' y hy)
  simp [c22, c9, c3, c24, c2, c25] at e0 e1 e2 e4 e5 e6 e7
  subst e0; subst e1; subst e2; subst e4; subst e5; subst e6; subst e7
  exact ⟨A, comps, c, s1, n2, a3, AW, ws, cw, n5, s6, AI, its, ci, rfl, h3, hc0, hC0, hS0, hC4, hS4, hC7⟩
end
end Go.Proofs.Ytgnifglolbfamaa
