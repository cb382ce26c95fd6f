/- Texts of the claim, merged in build order: PmG, PmR, PlU, PlV, PlX. -/
import Derived.Test.YtgnifglolbfamaaZAG
import Derived.ChangeArms
import Derived.DataReads
import Derived.Test.YtgnifglolbfamaaRows
import Derived.WalkKit
import Derived.ProofKit
import Derived.OpenShut
import Derived.ShutString
import Derived.ChangeOld
import Derived.Below
import Derived.Laws.EntriesVeiled
/- How a query and an expression that are handed in read: out of the row's own words. -/
set_option linter.unusedVariables false
set_option linter.unusedSimpArgs false
namespace Go.Proofs.Ytgnifglolbfamaa
open Go.RowKit Go.Proofs.YtgnifglolbfamaaW.PrintWords
section
variable {H : Type} {enc : TypeId × Value → H} {w : World} {base : Nat} {spare : Nat → Bool} {held : Bool}

theorem add_add' (a : Addr) (m i : Nat) : (a.add m).add i = a.add (m + i) := by
  unfold Addr.add
  by_cases hi : i = 0
  · subst hi; simp
  · by_cases hm : m = 0
    · subst hm; simp [hi]
    · rw [if_neg hi, if_neg hm, if_neg (by omega)]
      simp [Nat.add_assoc]
theorem slice_open {α : Type} {d : Kd α} {S : α → Prop} {t e : TypeId} {fuel : Nat} {cs : List Value} {x : DataW H × List MemPlace} (ht : Try.prog.underlying t = some (.slice e)) (hsz : Try.prog.cellsOf e = d.sz)
    (h : DataW.trod enc Try.prog w base spare held fuel t cs = some x) (he : ∀ n cs' y, n < fuel → DataW.trod enc Try.prog w base spare held n e cs' = some y → ∃ v, d.K w v cs' ∧ S v) :
    ∃ (A : Option Addr) (xs : List α) (cap : Nat), cs = [.slice A xs.length cap] ∧ xs.length ≤ cap ∧ d.C w A xs.length xs ∧ ∀ x ∈ xs, S x := by
  rcases DataW.trod_slice ht h with ⟨rfl, _⟩ | ⟨a, len, cap, elems, rest, n, rfl, rfl, _, hb, hl, hm, hlen, hel, _, _⟩
  · exact ⟨none, [], 0, rfl, Nat.le_refl _, Kd.C_nil _ _, by simp⟩
  · have hch : ∀ i : Fin len, ∃ v, (∃ cs', (w.cells? base (a.add (i.1 * d.sz)) d.sz) = some cs' ∧ d.K w v cs') ∧ S v := by
      intro i
      have h1 := hel i.1 i.2
      rw [hsz] at h1
      rw [List.getElem?_eq_getElem (by omega)] at h1
      obtain ⟨cs', h2, h3⟩ := Option.bind_eq_some_iff.1 h1
      obtain ⟨v, h4, h5⟩ := he n cs' _ (by omega) h3
      exact ⟨v, ⟨cs', h2, h4⟩, h5⟩
    obtain ⟨F, hF⟩ := Classical.axiomOfChoice hch
    have hll : (List.ofFn F).length = len := List.length_ofFn
    refine ⟨some a, List.ofFn F, cap, by rw [hll], by omega, ⟨rfl, by rw [hll]; simp only [maxLen] at hm; omega, fun _ => ⟨a, rfl, fun j p hj => ?_⟩⟩, ?_⟩
    · obtain ⟨hjl, hjp⟩ := List.getElem?_eq_some_iff.1 hj
      rw [hll] at hjl
      rw [List.getElem_ofFn] at hjp
      subst hjp
      obtain ⟨⟨cs', h2, h4⟩, _⟩ := hF ⟨j, hjl⟩
      refine ⟨cs', d.K_len h4, h4, fun i u hu => ?_⟩
      obtain ⟨_, h6, h7⟩ := World.cells?_some h2
      have hil := (List.getElem?_eq_some_iff.1 hu).1
      rw [← hu, ← h7 i (by omega), add_add']
    · intro x hx
      obtain ⟨i, rfl⟩ := List.mem_ofFn.1 hx
      exact (hF i).2

theorem len1 {l : List Value} (h : l.length = 1) : ∃ a, l = [a] := by
  rcases l with _ | ⟨a, _ | ⟨b, t⟩⟩
  · simp at h
  · exact ⟨a, rfl⟩
  · simp at h
theorem c2 : Try.prog.cellsOf 2 = 1 := by kernel_rfl
theorem c3 : Try.prog.cellsOf 3 = 1 := by kernel_rfl
theorem c4 : Try.prog.cellsOf 4 = 1 := by kernel_rfl
theorem c9 : Try.prog.cellsOf 9 = 1 := by kernel_rfl
theorem c22 : Try.prog.cellsOf 22 = 1 := by kernel_rfl
theorem c23 : Try.prog.cellsOf 23 = 1 := by kernel_rfl
theorem c24 : Try.prog.cellsOf 24 = 1 := by kernel_rfl
theorem c25 : Try.prog.cellsOf 25 = 1 := by kernel_rfl
theorem c27 : Try.prog.cellsOf 27 = 8 := by kernel_rfl
theorem c29 : Try.prog.cellsOf 29 = 4 := by kernel_rfl
theorem c31 : Try.prog.cellsOf 31 = 10 := by kernel_rfl
theorem c46 : Try.prog.cellsOf 46 = 4 := by kernel_rfl
theorem c87 : Try.prog.cellsOf 87 = 11 := by kernel_rfl

/-- A struct's field's reading. -/
theorem field_open {fs : Array Field} {xs : List (DataW H × List MemPlace)} {n : Nat} {cs : List Value} (hl : xs.length = fs.size)
    (hf : ∀ (i : Nat) (f : Field), fs[i]? = some f → DataW.trod enc Try.prog w base spare held n f.type ((cs.drop f.offset).take (Try.prog.cellsOf f.type)) = xs[i]?) (i : Nat) (f : Field) (h : fs[i]? = some f) :
    ∃ y, DataW.trod enc Try.prog w base spare held n f.type ((cs.drop f.offset).take (Try.prog.cellsOf f.type)) = some y := by
  have hi : i < fs.size := (Array.getElem?_eq_some_iff.1 h).1
  exact ⟨xs[i]'(by omega), by rw [hf i f h]; exact List.getElem?_eq_getElem (by omega)⟩

theorem val_open {fuel : Nat} {cs : List Value} {x : DataW H × List MemPlace} (h : DataW.trod enc Try.prog w base spare held fuel 29 cs = some x) : ∃ v : Val, cs = [.int .i64 v.f0, .int .i64 v.f1, .string v.f2, .bool v.f3] := by
  obtain ⟨xs, n, rfl, _, hlen, hl, hf⟩ := DataW.trod_struct Try.underlying29 h
  rw [c29] at hlen
  obtain ⟨y0, g0⟩ := field_open hl hf 0 _ rfl
  obtain ⟨y1, g1⟩ := field_open hl hf 1 _ rfl
  obtain ⟨y2, g2⟩ := field_open hl hf 2 _ rfl
  obtain ⟨y3, g3⟩ := field_open hl hf 3 _ rfl
  rcases cs with _ | ⟨a0, _ | ⟨a1, _ | ⟨a2, _ | ⟨a3, _ | ⟨a4, t⟩⟩⟩⟩⟩ <;> simp at hlen
  obtain ⟨n0, e0, _⟩ := DataW.trod_int Try.underlying3 g0
  obtain ⟨n1, e1, _⟩ := DataW.trod_int Try.underlying2 g1
  obtain ⟨s2, e2, _⟩ := DataW.trod_string Try.underlying9 g2
  obtain ⟨b3, e3, _⟩ := DataW.trod_bool Try.underlying4 g3
  simp [c3, c2, c9, c4] at e0 e1 e2 e3
  subst e0; subst e1; subst e2; subst e3
  exact ⟨⟨n0, n1, s2, b3⟩, rfl⟩

def NmX (x : Ex) : Prop := ∀ r ∈ refsOf x, r.f0.size ≤ maxLen
theorem nm_kids : ∀ (l : List Ex), (∀ x ∈ l, NmX x) → ∀ y ∈ spkL l, (refOf y).f0.size ≤ maxLen
  | [], _, y, hy => by simp [spkL] at hy
  | x :: l, h, y, hy => by
    simp only [spkL, List.mem_append] at hy
    rcases hy with hy | hy
    · exact h x List.mem_cons_self _ (List.mem_map.2 ⟨y, hy, rfl⟩)
    · exact nm_kids l (fun z hz => h z (List.mem_cons_of_mem _ hz)) y hy
theorem nm_mk (x : Ex) (h1 : x.f3.size ≤ maxLen) (h2 : ∀ y ∈ x.f6, NmX y) : NmX x := by
  intro r hr
  unfold refsOf at hr
  obtain ⟨y, hy, rfl⟩ := List.mem_map.1 hr
  rw [spk_eq] at hy
  split at hy
  · simp at hy
  · split at hy
    · simp at hy
      subst hy
      exact h1
    · exact nm_kids _ h2 y hy

theorem ex_open : ∀ (fuel : Nat) (cs : List Value) (x : DataW H × List MemPlace), DataW.trod enc Try.prog w base spare held fuel 31 cs = some x → ∃ v : Ex, kEx.K w v cs ∧ NmX v := by
  intro fuel
  induction fuel using Nat.strongRecOn with
  | _ fuel ih =>
    intro cs x h
    obtain ⟨xs, n, rfl, _, hlen, hl, hf⟩ := DataW.trod_struct Try.underlying31 h
    rw [c31] at hlen
    obtain ⟨y0, g0⟩ := field_open hl hf 0 _ rfl
    obtain ⟨y1, g1⟩ := field_open hl hf 1 _ rfl
    obtain ⟨y2, g2⟩ := field_open hl hf 2 _ rfl
    obtain ⟨y3, g3⟩ := field_open hl hf 3 _ rfl
    obtain ⟨y4, g4⟩ := field_open hl hf 4 _ rfl
    obtain ⟨y5, g5⟩ := field_open hl hf 5 _ rfl
    obtain ⟨y6, g6⟩ := field_open hl hf 6 _ rfl
    rcases cs with _ | ⟨a0, _ | ⟨a1, _ | ⟨a2, _ | ⟨a3, _ | ⟨a4, _ | ⟨a5, _ | ⟨a6, _ | ⟨a7, _ | ⟨a8, _ | ⟨a9, _ | ⟨a10, t⟩⟩⟩⟩⟩⟩⟩⟩⟩⟩⟩ <;> simp at hlen
    obtain ⟨n0, e0, _⟩ := DataW.trod_int Try.underlying3 g0
    obtain ⟨n1, e1, _⟩ := DataW.trod_int Try.underlying3 g1
    obtain ⟨vv, e2⟩ := val_open g2
    obtain ⟨s3, e3, _, hs3⟩ := DataW.trod_string Try.underlying9 g3
    obtain ⟨n4, e4, _⟩ := DataW.trod_int Try.underlying3 g4
    obtain ⟨s5, e5, _⟩ := DataW.trod_string Try.underlying9 g5
    obtain ⟨A, kids, cap, e6, hc, hC, hS⟩ := slice_open (d := kEx) (S := NmX) Try.underlying24 c31 g6 (fun m cs' y hm hy => ih m (by omega) cs' y hy)
    simp [c3, c29, c9, c24] at e0 e1 e2 e3 e4 e5 e6
    obtain ⟨rfl, rfl, rfl, rfl⟩ := e2
    subst e0; subst e1; subst e3; subst e4; subst e5; subst e6
    exact ⟨⟨n0, n1, vv, s3, n4, s5, kids⟩, kEx_mk w ⟨n0, n1, vv, s3, n4, s5, kids⟩ hc hC, nm_mk _ hs3 hS⟩

theorem cp_open (fuel : Nat) (cs : List Value) (x : DataW H × List MemPlace) (h : DataW.trod enc Try.prog w base spare held fuel 46 cs = some x) : ∃ v : Cp, kCp.K w v cs ∧ v.f3.size ≤ maxLen := by
  obtain ⟨xs, n, rfl, _, hlen, hl, hf⟩ := DataW.trod_struct Try.underlying46 h
  rw [c46] at hlen
  obtain ⟨y0, g0⟩ := field_open hl hf 0 _ rfl
  obtain ⟨y1, g1⟩ := field_open hl hf 1 _ rfl
  obtain ⟨y2, g2⟩ := field_open hl hf 2 _ rfl
  obtain ⟨y3, g3⟩ := field_open hl hf 3 _ rfl
  rcases cs with _ | ⟨a0, _ | ⟨a1, _ | ⟨a2, _ | ⟨a3, _ | ⟨a4, t⟩⟩⟩⟩⟩ <;> simp at hlen
  obtain ⟨b0, e0, _⟩ := DataW.trod_bool Try.underlying4 g0
  obtain ⟨b1, e1, _⟩ := DataW.trod_bool Try.underlying4 g1
  obtain ⟨s2, e2, _⟩ := DataW.trod_string Try.underlying9 g2
  obtain ⟨s3, e3, _, hs⟩ := DataW.trod_string Try.underlying9 g3
  simp [c9, c4] at e0 e1 e2 e3
  subst e0; subst e1; subst e2; subst e3
  exact ⟨⟨b0, b1, s2, s3⟩, kCp_mk w ⟨b0, b1, s2, s3⟩, hs⟩

theorem it_open (fuel : Nat) (cs : List Value) (x : DataW H × List MemPlace) (h : DataW.trod enc Try.prog w base spare held fuel 87 cs = some x) : ∃ v : It, kIt.K w v cs ∧ True := by
  obtain ⟨xs, n, rfl, _, hlen, hl, hf⟩ := DataW.trod_struct Try.underlying87 h
  rw [c87] at hlen
  obtain ⟨y0, g0⟩ := field_open hl hf 0 _ rfl
  obtain ⟨y1, g1⟩ := field_open hl hf 1 _ rfl
  obtain ⟨s0, e0, _⟩ := DataW.trod_string Try.underlying9 g0
  obtain ⟨v, hK, _⟩ := ex_open _ _ _ g1
  obtain ⟨A9, c9', e, hl9, hC9⟩ := kEx_open hK
  rcases cs with _ | ⟨a, cs⟩
  · simp at hlen
  · simp [c9] at e0
    subst e0
    have ht : ((Value.string s0 :: cs).drop 1).take (Try.prog.cellsOf 31) = cs := by
      rw [c31]
      simp at hlen
      simp [List.take_of_length_le, hlen]
    have e' := ht.symm.trans e
    subst e'
    exact ⟨⟨s0, v⟩, kIt_mk w ⟨s0, v⟩ hl9 hC9, trivial⟩

theorem query_open {fuel : Nat} {cs : List Value} {x : DataW H × List MemPlace} (h : DataW.trod enc Try.prog w base spare held fuel 27 cs = some x) :
    ∃ (A : Option Addr) (comps : List Cp) (c : Nat) (q1 : ByteArray) (q2 : Int) (v3 : Value) (AW : Option Addr) (ws : List Ex) (cw : Nat) (q5 : Int) (q6 : ByteArray) (AI : Option Addr) (its : List It) (ci : Nat),
      cs = [.slice A comps.length c, .string q1, .int .i64 q2, v3, .slice AW ws.length cw, .int .i64 q5, .string q6, .slice AI its.length ci] ∧ v3.oneCell' = true ∧ comps.length ≤ c ∧ kCp.C w A comps.length comps ∧ (∀ x ∈ comps, x.f3.size ≤ maxLen) ∧
      kEx.C w AW ws.length ws ∧ (∀ x ∈ ws, NmX x) ∧ kIt.C w AI its.length its := by
  obtain ⟨xs, n, rfl, _, hlen, hl, hf⟩ := DataW.trod_struct Try.underlying27 h
  rw [c27] at hlen
  obtain ⟨y0, g0⟩ := field_open hl hf 0 _ rfl
  obtain ⟨y1, g1⟩ := field_open hl hf 1 _ rfl
  obtain ⟨y2, g2⟩ := field_open hl hf 2 _ rfl
  obtain ⟨y3, g3⟩ := field_open hl hf 3 _ rfl
  obtain ⟨y4, g4⟩ := field_open hl hf 4 _ rfl
  obtain ⟨y5, g5⟩ := field_open hl hf 5 _ rfl
  obtain ⟨y6, g6⟩ := field_open hl hf 6 _ rfl
  obtain ⟨y7, g7⟩ := field_open hl hf 7 _ rfl
  rcases cs with _ | ⟨a0, _ | ⟨a1, _ | ⟨a2, _ | ⟨a3, _ | ⟨a4, _ | ⟨a5, _ | ⟨a6, _ | ⟨a7, _ | ⟨a8, t⟩⟩⟩⟩⟩⟩⟩⟩⟩ <;> simp at hlen
  obtain ⟨A, comps, c, e0, hc0, hC0, hS0⟩ := slice_open (d := kCp) (S := fun v => v.f3.size ≤ maxLen) Try.underlying22 c46 g0 (fun m cs' y _ hy => cp_open m cs' y hy)
  obtain ⟨s1, e1, _⟩ := DataW.trod_string Try.underlying9 g1
  obtain ⟨n2, e2, _⟩ := DataW.trod_int Try.underlying3 g2
  have h3 : a3.oneCell' = true := by
    rcases DataW.trod_slice Try.underlying23 g3 with ⟨e, _⟩ | ⟨a, len, cap, _, _, _, _, e, _⟩
    · simp [c23] at e; subst e; rfl
    · simp [c23] at e; subst e; rfl
  obtain ⟨AW, ws, cw, e4, _, hC4, hS4⟩ := slice_open (d := kEx) (S := NmX) Try.underlying24 c31 g4 (fun m cs' y _ hy => ex_open m cs' y hy)
  obtain ⟨n5, e5, _⟩ := DataW.trod_int Try.underlying2 g5
  obtain ⟨s6, e6, _⟩ := DataW.trod_string Try.underlying9 g6
  obtain ⟨AI, its, ci, e7, _, hC7, _⟩ := slice_open (d := kIt) (S := fun _ => True) Try.underlying25 c87 g7 (fun m cs' y _ hy => it_open m cs' y hy)
  simp [c22, c9, c3, c24, c2, c25] at e0 e1 e2 e4 e5 e6 e7
  subst e0; subst e1; subst e2; subst e4; subst e5; subst e6; subst e7
  exact ⟨A, comps, c, s1, n2, a3, AW, ws, cw, n5, s6, AI, its, ci, rfl, h3, hc0, hC0, hS0, hC4, hS4, hC7⟩
end
end Go.Proofs.Ytgnifglolbfamaa

/- The row PlaceMoments, out of its walk. -/
namespace Go.Proofs.Ytgnifglolbfamaa
open Go.RowKit
/-- The walk, for every query and expression that read as data. -/
def MomLaw : Prop := ∀ (cs : List Cp) (A : Option Addr) (c : Nat) (q1 : ByteArray) (q2 : Int) (v3 : Value) (ws : List Ex) (AW : Option Addr) (cw : Nat) (q5 : Int) (q6 : ByteArray) (its : List It) (AI : Option Addr) (ci : Nat), v3.oneCell' = true → ∀ (x : Ex) (B : Option Addr) (cb : Nat) (w : World),
    cs.length ≤ c → kCp.C w A cs.length cs → kEx.C w AW ws.length ws → kIt.C w AI its.length its → (∀ x ∈ cs, x.f3.size ≤ maxLen) → (∀ r ∈ refsOf x, r.f0.size ≤ maxLen) → x.f6.length ≤ cb → kEx.C w B x.f6.length x.f6 →
    Calls Try.prog 3 #[.agg #[.slice A cs.length c, .string q1, .int .i64 q2, v3, .slice AW ws.length cw, .int .i64 q5, .string q6, .slice AI its.length ci], exV x (.slice B x.f6.length cb)] w (True_ w)
end Go.Proofs.Ytgnifglolbfamaa
namespace Go.Proofs.Ytgnifglolbfamaa.placeMoments
open Go.ChangeShapes Go.WideShapes Go.ChangeAt Go.RowKit
set_option linter.unusedVariables false

theorem own : ownKnob Try.prog.godebug = none := by kernel_rfl
theorem laidOut : laidOutB Try.prog = true := by kernel_rfl
theorem arr_of {c : Array Value} {l : List Value} (h : (Value.agg c).cells.toList = l) : c = l.toArray := by
  have h2 : c.toList = l := h
  rw [← h2]

set_option maxRecDepth 100000 in
theorem lifted (hm : MomLaw) (os : Os) (started : os.Started) (H : Type) (enc : TypeId × Value → H) :
    ReturnsInHanded {} Try.checked os 3 .any (Rows.placeMomentsSpec.pre6 enc Try.prog Try.f3 Rows.placeMomentsRow.domain false) (Rows.placeMomentsSpec.post enc Try.prog Try.f3 false true false false) := by
  refine returnsInHanded_of_change (C := Try.checked) own started (by kernel_rfl) Try.func3
    (ChangeSpec.witness6 (enc := enc) (C := Try.checked) false ⟨#[], #[.agg #[.slice none 0 0, .string ⟨#[]⟩, .int .i64 0, .slice none 0 0, .slice none 0 0, .int .i64 0, .string ⟨#[]⟩, .slice none 0 0], .agg #[.int .i64 0, .int .i64 0, .int .i64 0, .int .i64 0, .string ⟨#[]⟩, .bool false, .string ⟨#[]⟩, .int .i64 0, .string ⟨#[]⟩, .slice none 0 0]], []⟩ 8 (by kernel_rfl) (by kernel_rfl) (by kernel_rfl) (by kernel_rfl)) ?_
  intro W base args ds gs before hval0 hW hcnd _
  have hval : ∀ (j : Nat) t v, Try.f3.params[j]? = some t → args[j]? = some v → Value.okWide Try.prog W .any base t v := hval0
  have hW' := hW
  obtain ⟨p, q, hA0, hV, rfl, hfz, hnd⟩ := hW
  have hA : DataW.TrodAll enc Try.prog W 0 (fun _ => true) true Try.f3.params.toList args.toList ds p := hA0
  rw [Try.params3] at hA hval
  obtain ⟨v0, vs0, d0, ds0, p0, q0, hargs, rfl, rfl, h0, r0⟩ := trodAll_cons hA
  obtain ⟨v1, vs1, d1, ds1, p1, q1, rfl, rfl, rfl, h1, r1⟩ := trodAll_cons r0
  obtain ⟨rfl, rfl, rfl⟩ := trodAll_nil r1
  obtain rfl : args = #[v0, v1] := by cases args; simp_all
  obtain ⟨rfl, rfl⟩ := trodVars_none hV
  obtain ⟨c0, rfl, _⟩ := okWide_struct Try.underlying27 (hval 0 27 v0 rfl rfl)
  obtain ⟨c1, rfl, _⟩ := okWide_struct Try.underlying31 (hval 1 31 v1 rfl rfl)
  have k0 := h0
  have k1 := h1
  have lt0 : ∀ x ∈ p0, x.block < W.heap.size := by obtain ⟨m, hm⟩ := k0; exact DataW.trod_lt m _ _ _ hm
  have lt1 : ∀ x ∈ p1, x.block < W.heap.size := by obtain ⟨m, hm⟩ := k1; exact DataW.trod_lt m _ _ _ hm
  obtain ⟨f0, hf0⟩ := h0
  obtain ⟨f1, hf1⟩ := h1
  obtain ⟨A, cs, c, q1, q2, v3, AW, ws, cw, q5, q6, AI, its, ci, e0, g1, g2, g3, g4, g5, _, g7⟩ := query_open hf0
  obtain ⟨x, hK, hN⟩ := ex_open _ _ _ hf1
  obtain ⟨B, cb, e1, hcb, hCx⟩ := kEx_open hK
  have e0 := arr_of e0
  have e1 := arr_of e1
  subst e0
  subst e1
  clear hA0 hval0
  refine (hm cs A c q1 q2 v3 ws AW cw q5 q6 its AI ci g1 x B cb W g2 g3 g5 g7 g4 hN hcb hCx).mono fun e W' ⟨he, bel⟩ => ?_
  subst he
  exact ⟨_, rfl, _, _, _, [], _, [], hW', trodAll_mk1 (shut_bool Try.underlying4 _), (trodAll_cons_mk (Below.trod laidOut (by kernel_rfl) (of_decide_eq_true (by kernel_rfl)) k0 bel lt0) (trodAll_cons_mk (Below.trod laidOut (by kernel_rfl) (of_decide_eq_true (by kernel_rfl)) k1 bel lt1) trodAll_mk0)), rfl, bel.frame _, fun h => by cases h⟩

theorem over (hm : MomLaw) : Rows.placeMomentsRow.holds Try.pinned (OpenSpec.ofChange Rows.placeMomentsSpec) :=
  OpenClaim.holds_of_wide 3 Try.f3 rfl rfl rfl rfl rfl rfl rfl ⟨rfl, rfl, rfl, rfl, rfl⟩ rfl rfl rfl rfl rfl (by kernel_rfl) Try.func3 (by kernel_rfl)
    (of_decide_eq_true (by kernel_rfl)) (by unfold Func.isWrapper; first | (rw [if_pos (by decide +kernel)]; kernel_rfl) | (rw [if_neg (by decide +kernel)]; exact ⟨rfl, rfl⟩))
    (fun os started H enc _ => lifted hm os started H enc)
end Go.Proofs.Ytgnifglolbfamaa.placeMoments

/- The walks of place.listsOf, of its functions, and of layout.add. -/
set_option linter.unusedVariables false
set_option linter.unusedSimpArgs false
namespace Go.Proofs.Ytgnifglolbfamaa
open Go.RowKit Go.Proofs.YtgnifglolbfamaaW.PrintWords

def listsV : Array Value := #[.int .i64 1, .func (.func 72) #[] #[], .int .i64 2, .func (.func 73) #[] #[], .int .i64 3, .func (.func 74) #[] #[], .int .i64 4, .func (.func 75) #[] #[], .int .i64 5, .func (.func 76) #[] #[]]
set_option maxHeartbeats 2000000 in
set_option maxRecDepth 100000 in
theorem listsOf_any (w : World) : Calls Try.prog 60 #[] w fun e w' => e = .returned (.agg listsV) ∧ Below w.heap.size w w' := by
  go_enter Try.func60, Try.ntmps60
  go_wp2_with fail
  refine bodyPost_ret (results_cell_row rfl _ _ w.heap.size 136 listsV (0, 0) _ rfl (blk_new w _) Try.underlying136 rfl (by kernel_rfl)) rfl ?_
  exact ⟨rfl, below_new _ _⟩
section
variable {w : World} {base G : Nat} {cs : List Cp} {L : Nat → Nat → List Ex} {S N : Nat} {T U : Nat → ByteArray} {Pl : Nat → Bool} {nb cap : Nat → Nat} {junk V : Nat → Nat → Value} {f : Nat → Nat}
set_option maxHeartbeats 2000000 in
set_option maxRecDepth 100000 in
theorem find1_any (h : LayIn w base G cs L S N T U Pl nb cap junk V f) (i : Nat) (hv : VP cs 1 i) :
    Calls Try.prog 72 #[.pointer (some ⟨G, 0, none⟩), .int .i64 i] w fun e w' => e = .returned (.pointer (some ⟨(adr cs G S nb 1 i).1, (adr cs G S nb 1 i).2, none⟩)) ∧ w' = w := by
  have hi : i < stg cs := by rcases hv with ⟨_, h⟩ | ⟨h, _⟩ | ⟨h, _⟩ <;> first | exact h | (exact absurd h (by decide))
  have i1 : (0 : Int) ≤ (i : Int) := by omega
  have i2 : (i : Int) < (stg cs : Int) := by omega
  have g0 := (blk_cell h.hG 0).trans rfl
  go_enter Try.func72, Try.ntmps72
  go_wp2_with fail
  go_ret
  exact ⟨rfl, rfl⟩
set_option maxHeartbeats 2000000 in
set_option maxRecDepth 100000 in
theorem find2_any (h : LayIn w base G cs L S N T U Pl nb cap junk V f) (i : Nat) (hv : VP cs 2 i) :
    Calls Try.prog 73 #[.pointer (some ⟨G, 0, none⟩), .int .i64 i] w fun e w' => e = .returned (.pointer (some ⟨(adr cs G S nb 2 i).1, (adr cs G S nb 2 i).2, none⟩)) ∧ w' = w := by
  have hi : i < stg cs := by rcases hv with ⟨_, h⟩ | ⟨h, _⟩ | ⟨h, _⟩ <;> first | exact h | (exact absurd h (by decide))
  have i1 : (0 : Int) ≤ (i : Int) := by omega
  have i2 : (i : Int) < (stg cs : Int) := by omega
  have g0 := (blk_cell h.hG 0).trans rfl
  go_enter Try.func73, Try.ntmps73
  go_wp2_with fail
  go_ret
  exact ⟨rfl, rfl⟩
set_option maxHeartbeats 2000000 in
set_option maxRecDepth 100000 in
theorem find3_any (h : LayIn w base G cs L S N T U Pl nb cap junk V f) (i : Nat) (hv : VP cs 3 i) :
    Calls Try.prog 74 #[.pointer (some ⟨G, 0, none⟩), .int .i64 i] w fun e w' => e = .returned (.pointer (some ⟨(adr cs G S nb 3 i).1, (adr cs G S nb 3 i).2, none⟩)) ∧ w' = w := by
  have hi : i < stg cs := by rcases hv with ⟨_, h⟩ | ⟨h, _⟩ | ⟨h, _⟩ <;> first | exact h | (exact absurd h (by decide))
  have i1 : (0 : Int) ≤ (i : Int) := by omega
  have i2 : (i : Int) < (stg cs : Int) := by omega
  have g0 := (blk_cell h.hG 0).trans rfl
  go_enter Try.func74, Try.ntmps74
  go_wp2_with fail
  go_ret
  exact ⟨rfl, rfl⟩
set_option maxHeartbeats 2000000 in
set_option maxRecDepth 100000 in
theorem find4_any (h : LayIn w base G cs L S N T U Pl nb cap junk V f) (i : Nat) (hv : VP cs 4 i) :
    Calls Try.prog 75 #[.pointer (some ⟨G, 0, none⟩), .int .i64 i] w fun e w' => e = .returned (.pointer (some ⟨(adr cs G S nb 4 i).1, (adr cs G S nb 4 i).2, none⟩)) ∧ w' = w := by
  have hi : i < cs.length ∧ negB cs i = true := by rcases hv with ⟨h, _⟩ | ⟨_, h⟩ | ⟨h, _⟩ <;> first | exact h | (exact absurd h (by decide))
  have i1 : (0 : Int) ≤ (i : Int) := by omega
  have i2 : (i : Int) < (cs.length : Int) := by omega
  have g0 := (blk_cell h.hG 1).trans rfl
  have n0 : w.cell? ⟨N, i, none⟩ = some (.pointer (some ⟨nb (stA cs i), (ngI cs i (stA cs i)).length * 3, none⟩)) := by
    rw [h.hN.cell hi.1]
    unfold ptrN
    rw [if_pos hi]
  have hadr : adr cs G S nb 4 i = (nb (stA cs i), (ngI cs i (stA cs i)).length * 3 + 2) := rfl
  rw [hadr]
  clear hadr hi hv
  go_enter Try.func75, Try.ntmps75
  go_wp2_with fail
  go_ret
  exact ⟨rfl, rfl⟩
set_option maxHeartbeats 2000000 in
set_option maxRecDepth 100000 in
theorem find5_any (h : LayIn w base G cs L S N T U Pl nb cap junk V f) (i : Nat) :
    Calls Try.prog 76 #[.pointer (some ⟨G, 0, none⟩), .int .i64 i] w fun e w' => e = .returned (.pointer (some ⟨(adr cs G S nb 5 i).1, (adr cs G S nb 5 i).2, none⟩)) ∧ w' = w := by
  have hadr : adr cs G S nb 5 i = (G, 2) := rfl
  rw [hadr]
  go_enter Try.func76, Try.ntmps76
  go_wp2_with fail
  go_ret
  exact ⟨rfl, rfl⟩
end
end Go.Proofs.Ytgnifglolbfamaa

/- What layout.add writes: an element more, laid as zero first and then written. -/
set_option linter.unusedVariables false
set_option linter.unusedSimpArgs false
namespace Go.Proofs.Ytgnifglolbfamaa
open Go.RowKit Go.Proofs.YtgnifglolbfamaaW.PrintWords

theorem setCell_comm (w : World) (p q : Addr) (u v : Value) (h : p.block ≠ q.block) : (w.setCell p u).setCell q v = (w.setCell q v).setCell p u := by
  unfold World.setCell
  simp only
  congr 1
  apply Array.ext_getElem?
  intro i
  simp only [Array.getElem?_modify]
  by_cases h1 : q.block = i
  · have h2 : ¬ p.block = i := fun e => h (e.trans h1.symm)
    simp [h1, h2]
  · by_cases h2 : p.block = i <;> simp [h1, h2]

def z10 : Array Value := #[.int .i64 0, .int .i64 0, .int .i64 0, .int .i64 0, .string ⟨#[]⟩, .bool false, .string ⟨#[]⟩, .int .i64 0, .string ⟨#[]⟩, .slice none 0 0]
section
variable {ops : Array Oper} {o : Oper} {a : Act} {Q : Exit → Act → World → Prop} {K : Act → World → Prop} {E : Prop}
theorem step_ex {w0 W : World} (base : Nat) (hgd : o.guard = none) (s x : Operand) (ho : o.op = .call { callee := .builtin .append, args := #[s, x], argTypes := #[24, 24] })
    (v : Value) (xs : List Ex) (n : Nat) (hn : n = xs.length) (gz : Nat) (hgz : W.heap[gz]? = some (.cells z10 31 (0, 0))) (ok : Nat → Prop) (hfresh : ∀ k, W.heap.size ≤ k → ok k) (hs : a.eval s = v) (hx : a.eval x = .slice (some ⟨gz, 0, none⟩) 1 1)
    (HO : kEx.R 31 W base ok v xs) (HB : Below base w0 W) (hbase : base ≤ W.heap.size) (hl : (xs.length + 1) * 120 ≤ 140737488355328)
    (h : ∀ g cap w1, kEx.R 31 w1 base ok (.slice (some ⟨g, 0, none⟩) (n + 1) cap) (xs ++ [zEx]) → Below base w0 w1 → W.grownBy w1 v.ownBlock → (v.ownBlock = some g ∨ W.heap.size ≤ g) → K (a.put o.dst (.slice (some ⟨g, 0, none⟩) (n + 1) cap)) w1) :
    if Region.wanted o (yielded ops a.tmps) = true then Oper.wp Try.prog o a W K Q else E := by
  subst hn
  have hw : Region.wanted o (yielded ops a.tmps) = true := by simp [Region.wanted, hgd]
  have HR : ReadsRow (fun (x : Ex) (c : List Value) => x = zEx ∧ c = z10.toList) 10 W (some ⟨gz, 0, none⟩) 1 [zEx] := by
    refine ⟨rfl, by omega, fun _ => ⟨_, rfl, fun j p hj => ?_⟩⟩
    obtain rfl : j = 0 := by
      rcases j with _ | j
      · rfl
      · simp at hj
    simp at hj
    refine ⟨z10.toList, rfl, ⟨hj.symm, rfl⟩, fun i u hu => ?_⟩
    have e : Addr.add ⟨gz, 0, none⟩ (0 * 10 + i) = ⟨gz, i, none⟩ := by
      simp only [Addr.add]
      split
      · rename_i h; simp at h; rw [h]
      · simp
    rw [e, blk_cell hgz]
    rw [← Array.getElem?_toList]
    exact hu
  have := Kd.R_append_rows_step (P := Try.prog) (ops := ops) (o := o) (a := a) (Q := Q) (Kc := K) kEx (w0 := w0) (W := W) base hw s x 24 31 _ 120 ho Try.underlying24 infoEx rfl (by decide) (by omega) v xs [zEx] _ 1 1 ok (fun _ => False) hs hx HO HR
    (fun x c hx => by obtain ⟨rfl, rfl⟩ := hx; exact kEx_mkM W base _ zEx (Kd.R_nil _ _ _ _ _)) (fun _ h => h.elim) hfresh HB hbase hl
    (fun v1 w1 h1 h2 h3 h4 => by
      obtain ⟨inner, hown⟩ := Kd.R_own h1
      obtain ⟨g, cap, rfl, _, _⟩ := hown.form (by simp)
      rw [List.length_append, List.length_singleton] at h1 ⊢
      refine h g cap w1 h1 h2 h3 ?_
      rcases h4 with h4 | ⟨b, hb, hle⟩
      · left; rw [← h4]; rfl
      · right
        have : g = b := by simpa [Value.ownBlock] using hb
        omega)
  rw [if_pos hw] at this ⊢
  exact this
end

/-- The last element is written. -/
theorem R_last {W : World} {g cap base n : Nat} {ok okp : Nat → Prop} {xs : List Ex} {y : Ex} {v9 : Value} (hn : n = xs.length) (h : kEx.R 31 W base ok (.slice (some ⟨g, 0, none⟩) (n + 1) cap) (xs ++ [zEx]))
    (hM : kEx.R 31 W base okp v9 y.f6) (hokp : ∀ k, okp k → ok k ∧ k ≠ g) :
    kEx.R 31 (W.setCells g (n * 10) [.int .i64 y.f0, .int .i64 y.f1, .int .i64 y.f2.f0, .int .i64 y.f2.f1, .string y.f2.f2, .bool y.f2.f3, .string y.f3, .int .i64 y.f4, .string y.f5, v9]) base ok (.slice (some ⟨g, 0, none⟩) (n + 1) cap) (xs ++ [y]) ∧
      W.grownBy (W.setCells g (n * 10) [.int .i64 y.f0, .int .i64 y.f1, .int .i64 y.f2.f0, .int .i64 y.f2.f1, .string y.f2.f2, .bool y.f2.f3, .string y.f3, .int .i64 y.f4, .string y.f5, v9]) (some g) := by
  subst hn
  obtain ⟨_, _, hC⟩ := Kd.R_reads' h
  obtain ⟨ad, cc, e, hlen, hK, hcc⟩ := Kd.C_get hC zEx (xs.length : Int) (by omega) (by simp; omega)
  injection e with e
  subst e
  have hcc2 : ∀ j u, cc[j]? = some u → W.cell? ⟨g, ((xs.length : Nat) : Int).toNat * kEx.sz + j, none⟩ = some u := by
    intro j u hu
    have h1 := hcc j u hu
    have e : Addr.add ⟨g, 0, none⟩ (((xs.length : Nat) : Int).toNat * kEx.sz + j) = ⟨g, ((xs.length : Nat) : Int).toNat * kEx.sz + j, none⟩ := by
      simp only [Addr.add]
      split
      · rename_i h; rw [h]
      · simp
    rw [e] at h1
    exact h1
  have hl10 : cc.length = 10 := hlen
  have := Kd.R_seg (d := kEx) (x' := y) (j := 0) (seg := [.int .i64 y.f0, .int .i64 y.f1, .int .i64 y.f2.f0, .int .i64 y.f2.f1, .string y.f2.f2, .bool y.f2.f3, .string y.f3, .int .i64 y.f4, .string y.f5, v9]) h (xs.length : Int) (by omega) (by omega) hlen hcc2 (by show 0 + 10 ≤ 10; omega)
    (by rw [List.take_zero, List.nil_append, List.drop_eq_nil_of_le (by rw [hl10]; show 10 ≤ 0 + 10; omega), List.append_nil]; exact kEx_mkM W base okp y hM) hokp
  have hset : (xs ++ [zEx]).set ((xs.length : Nat) : Int).toNat y = xs ++ [y] := by
    rw [Int.toNat_natCast, List.set_append_right _ _ (Nat.le_refl _)]
    simp
  rw [hset, Int.toNat_natCast, Nat.add_zero] at this
  exact this

/-- The row's cells at its last element, before it is written. -/
theorem R_last_cells {W : World} {g cap base n : Nat} {ok : Nat → Prop} {xs : List Ex} (hn : n = xs.length) (h : kEx.R 31 W base ok (.slice (some ⟨g, 0, none⟩) (n + 1) cap) (xs ++ [zEx])) :
    ∃ cur, W.heap[g]? = some (.cells cur 31 (0, 0)) ∧ base ≤ g ∧ ok g ∧ ∀ j, j < 10 → ∃ u, W.cell? ⟨g, n * 10 + j, none⟩ = some u := by
  subst hn
  obtain ⟨inner, hl, ho⟩ := Kd.R_own h
  have hok := h.1 g rfl
  rcases ho with ⟨h1, _⟩ | ⟨g', cap', cur, hv, hb, hh, hnc, hcm, hsz, _⟩
  · exact absurd h1 (by simp)
  · injection hv with h1 _ h3
    injection h1 with h1
    injection h1 with h1
    subst h1
    subst h3
    refine ⟨cur, hh, hb, hok, fun j hj => ?_⟩
    rw [blk_cell hh]
    have hs : cur.size = cap * 10 := hsz
    rw [List.length_append, List.length_singleton] at hnc
    exact ⟨_, Array.getElem?_eq_getElem (by omega)⟩
end Go.Proofs.Ytgnifglolbfamaa

/- The walk of layout.add. -/
set_option linter.unusedVariables false
set_option linter.unusedSimpArgs false
namespace Go.Proofs.Ytgnifglolbfamaa
open Go.RowKit Go.Proofs.YtgnifglolbfamaaW.PrintWords

theorem below_lower {B B' : Nat} {w w' : World} (h : Below B w w') (hb : B' ≤ B) : Below B' w w' := ⟨h.os, h.tape, h.output, h.size, fun k hk => h.block k (by omega)⟩
theorem setCells_swap (b o : Nat) (v : Value) (g : Nat) (h : b ≠ g) : ∀ (l : List Value) (m : Nat) (w : World), (w.setCell ⟨b, o, none⟩ v).setCells g m l = (w.setCells g m l).setCell ⟨b, o, none⟩ v
  | [], m, w => rfl
  | u :: l, m, w => by
    show ((w.setCell ⟨b, o, none⟩ v).setCell ⟨g, m, none⟩ u).setCells g (m + 1) l = ((w.setCell ⟨g, m, none⟩ u).setCells g (m + 1) l).setCell ⟨b, o, none⟩ v
    rw [setCell_comm w ⟨b, o, none⟩ ⟨g, m, none⟩ v u h, setCells_swap b o v g h l (m + 1) _]

theorem below_lower3 {base : Nat} {w wr w' : World} (hbase : base ≤ w.heap.size) (h : Below base w wr) (k : Below wr.heap.size wr w') : Below base w w' := below_then h (Nat.le_trans hbase h.size) k
/-- A layout in memory; f: whose a block is (8 i + k: place (k, i)'s; 7: no place's). -/
def LayF (w : World) (base G : Nat) (cs : List Cp) (L : Nat → Nat → List Ex) (f : Nat → Nat) : Prop :=
  ∃ S N T U Pl nb cap junk V, LayIn w base G cs L S N T U Pl nb cap junk V f
theorem LayF.below {w w1 : World} {base G : Nat} {cs : List Cp} {L : Nat → Nat → List Ex} {f : Nat → Nat} (h : LayF w base G cs L f) (hb : Below w.heap.size w w1) : LayF w1 base G cs L f := by
  obtain ⟨S, N, T, U, Pl, nb, cap, junk, V, h⟩ := h
  exact ⟨S, N, T, U, Pl, nb, cap, junk, V, h.below hb⟩
/-- What lies behind the layout's world is no place's. -/
theorem LayF.fresh {w : World} {base G : Nat} {cs : List Cp} {L : Nat → Nat → List Ex} {f : Nat → Nat} (h : LayF w base G cs L f) : LayF w base G cs L (fun b => if w.heap.size ≤ b then 7 else f b) := by
  obtain ⟨S, N, T, U, Pl, nb, cap, junk, V, h⟩ := h
  refine ⟨S, N, T, U, Pl, nb, cap, junk, V, h.bS, h.bN, h.bG, h.hG, h.hN, h.hS, h.hB, h.inj, fun k i hk => ?_, h.hT⟩
  exact Kd.R_mono (Kd.R_bound (h.hL k i hk)) (fun b hb => by show (if w.heap.size ≤ b then 7 else f b) = 8 * i + k; rw [if_neg (by have := hb.2.2.1; omega)]; exact hb.1)
/-- What a call of add leaves: w ahead of it, f whose the blocks were. -/
def AddInv (base G : Nat) (cs : List Cp) (L' : Nat → Nat → List Ex) (f : Nat → Nat) (w w' : World) : Prop :=
  Below base w w' ∧ ∃ f', LayF w' base G cs L' f' ∧ (∀ b, b < w.heap.size → f' b = f b) ∧ ∀ y cells, f y = 7 → w.heap[y]? = some (.cells cells 31 (0, 0)) → w'.heap[y]? = some (.cells cells 31 (0, 0))
theorem AddInv.below {base G : Nat} {cs : List Cp} {L' : Nat → Nat → List Ex} {f : Nat → Nat} {w wr w' : World} (hbase : base ≤ w.heap.size) (h : AddInv base G cs L' f w wr) (hb : Below wr.heap.size wr w') : AddInv base G cs L' f w w' := by
  obtain ⟨h1, f', h2, h3, h4⟩ := h
  exact ⟨below_lower3 hbase h1 hb, f', h2.below hb, h3, fun y cells hy hc => blk_below (h4 y cells hy hc) hb⟩
section
variable {base G : Nat} {cs : List Cp} {L : Nat → Nat → List Ex} {S N : Nat} {T U : Nat → ByteArray} {Pl : Nat → Bool} {nb cap : Nat → Nat} {junk V : Nat → Nat → Value} {f : Nat → Nat}
def exCells (x : Ex) (v9 : Value) : List Value := [.int .i64 x.f0, .int .i64 x.f1, .int .i64 x.f2.f0, .int .i64 x.f2.f1, .string x.f2.f2, .bool x.f2.f3, .string x.f3, .int .i64 x.f4, .string x.f5, v9]

theorem add_done {W3 w5 W w6 : World} (h : LayIn W3 base G cs L S N T U Pl nb cap junk V f) {k i : Nat} (hv : VP cs k i) {x : Ex} {v9 : Value} {B5 n g cp : Nat} (hn : n = (L k i).length)
    (hr9 : kEx.R 31 w5 B5 (fun _ => True) v9 x.f6) (hB5 : W3.heap.size ≤ B5) (hbase : base ≤ W3.heap.size) (h35 : Below W3.heap.size W3 w5) (h5W : Below w5.heap.size w5 W)
    (hR6 : kEx.R 31 w6 base (fun b => (if W3.heap.size ≤ b then 8 * i + k else f b) = 8 * i + k) (.slice (some ⟨g, 0, none⟩) (n + 1) cp) (L k i ++ [zEx]))
    (hg6 : W.grownBy w6 (V k i).ownBlock) (hat : (V k i).ownBlock = some g ∨ W.heap.size ≤ g) :
    LayF ((w6.setCells g (n * 10) (exCells x v9)).setCell ⟨(adr cs G S nb k i).1, (adr cs G S nb k i).2, none⟩ (.slice (some ⟨g, 0, none⟩) (n + 1) cp)) base G cs (upd2 L k i (L k i ++ [x])) (fun b => if W3.heap.size ≤ b then 8 * i + k else f b) ∧
      ∀ y cells, f y = 7 → W3.heap[y]? = some (.cells cells 31 (0, 0)) → ((w6.setCells g (n * 10) (exCells x v9)).setCell ⟨(adr cs G S nb k i).1, (adr cs G S nb k i).2, none⟩ (.slice (some ⟨g, 0, none⟩) (n + 1) cp)).heap[y]? = some (.cells cells 31 (0, 0)) := by
  have hk8 : k < 8 := by rcases hv with ⟨h | h | h, _⟩ | ⟨h, _⟩ | ⟨h, _⟩ <;> omega
  have hR0 := h.hL k i hk8
  have hown : ∀ b, (V k i).ownBlock = some b → b < W3.heap.size := Kd.R_lt hR0
  have h9 := Kd.R_mono (Kd.R_bound hr9) (ok' := fun b => B5 ≤ b ∧ b < w5.heap.size) (fun b hb => ⟨hb.2.1, hb.2.2.1⟩)
  have h9W := Kd.R_below h9 h5W
  have hs5 := h5W.size
  have h96 := Kd.R_lower (Kd.R_grown h9W hg6 (fun b hb he => by have := hown b he.symm; omega)) (Nat.le_trans hbase hB5)
  obtain ⟨hR7, hg7⟩ := R_last (y := x) hn hR6 h96 (fun b hb => ⟨if_pos (by omega), by
    rintro rfl
    rcases hat with hat | hat
    · have := hown _ hat; omega
    · omega⟩)
  have hg36 : W3.grownBy w6 (V k i).ownBlock := by
    refine ⟨hg6.os.trans (h5W.os.trans h35.os), hg6.tape.trans (h5W.tape.trans h35.tape), hg6.output.trans (h5W.output.trans h35.output), Nat.le_trans h35.size (Nat.le_trans h5W.size hg6.size), fun j hj hne => ?_⟩
    rw [hg6.block j (by have := h35.size; omega) hne, h5W.block j (by have := h35.size; omega), h35.block j hj]
  have hg37 : W3.grownBy (w6.setCells g (n * 10) (exCells x v9)) (V k i).ownBlock := by
    refine ⟨hg7.os.trans hg36.os, hg7.tape.trans hg36.tape, hg7.output.trans hg36.output, Nat.le_trans hg36.size hg7.size, fun j hj hne => ?_⟩
    have hjg : some j ≠ some g := by
      intro e
      injection e with e
      subst e
      rcases hat with hat | hat
      · exact hne hat.symm
      · have := h35.size; omega
    have h1 := hg7.block j (by have := hg36.size; omega) hjg
    exact h1.trans (hg36.block j hj hne)
  refine ⟨⟨S, N, T, U, Pl, nb, cap, junk, _, h.put hv hg37 hR7⟩, fun y cells hy hc => ?_⟩
  have hk5 : k ≤ 5 := by rcases hv with ⟨h | h | h, _⟩ | ⟨h, _⟩ | ⟨h, _⟩ <;> omega
  have h1 := blk_grown hc hg37 (fun e => by have := hR0.1 y e.symm; omega)
  obtain ⟨_, _, _, t, cb, ht, hcb⟩ := h.at_ k i hv
  refine blk_far h1 (p := ⟨(adr cs G S nb k i).1, (adr cs G S nb k i).2, none⟩) (fun e => ?_) _
  have e : y = (adr cs G S nb k i).1 := e
  rw [← e, hc] at hcb
  injection hcb with hcb
  injection hcb with _ hcb
  exact ht hcb.symm
end
end Go.Proofs.Ytgnifglolbfamaa
