/- Texts of the claim, merged in build order: QTB, QTC, QTD, PnH. -/
import Derived.Test.YtgnifglolbfamaaZAV
import Derived.Laws.OwnMore
import Derived.Deep.RegionHeld3
/- Room.twin: its walk. -/
set_option linter.unusedVariables false
set_option linter.unusedSimpArgs false
namespace Go.Proofs.Ytgnifglolbfamaa
open Go.RowKit Go.Proofs.YtgnifglolbfamaaW.PrintWords

theorem cutHM (g n m c : Nat) (h1 : n ≤ m) (h2 : m ≤ c) (h3 : 0 < m) : ∀ W : World, (Instr.slice 24 (.slice (some ⟨g, 0, none⟩) m c) none (some (.int .i64 (n : Int))) (some (.int .i64 (m : Int)))).run Try.prog W = .ok (.slice (some ⟨g, 0, none⟩) n m) W := by
  intro W
  obtain ⟨i0, hi0, hzz⟩ := Option.map_eq_some_iff.1 infoEx
  have hel : Try.prog.elem 24 = 31 := by simp [Program.elem, Try.underlying24]
  have hu : Try.prog.underlying 24 = some (.slice (Try.prog.elem 24)) := by rw [hel]; exact Try.underlying24
  rw [run_slice_hm W 24 (some ⟨g, 0, none⟩) m c hu .i64 .i64 (n : Int) (m : Int) (by omega) (by omega) (by omega), hel]
  simp [sizeOf, typeInfo, hi0, sliced, Result.andThen, add_plain]
section
variable {P : Program} {ops : Array Oper} {rest : List Oper} {o : Oper} {a : Act} {Q : Exit → Act → World → Prop}
/-- append, with a base. -/
theorem app_cellsB {W : World} (base H : Nat) (hH : W.heap.size = H) (hbase : base ≤ W.heap.size) (hgd : o.guard = none) (s x : Operand) (t e : TypeId) (z : Value) (size bytes : Nat)
    (ho : o.op = .call { callee := .builtin .append, args := #[s, x], argTypes := #[t, t] })
    (ht : P.underlying t = some (.slice e)) (hinfo : (P.info? e).map (fun i => (i.zero, i.size, i.bytes)) = some (some z, size, bytes)) (hz : z.cells.size = size) (hs0 : 0 < size) (hb0 : 0 < bytes)
    (A : Option Addr) (n cap : Nat) (xs ys : List Value) (hO : W.ownsRow base e size (.slice A n cap) n xs) (hys : ys.length = size) (hu : ∀ u ∈ ys, u.oneCell' = true)
    (hs : a.eval s = .slice A n cap) (hx : a.eval x = .slice (some ⟨H, 0, none⟩) 1 1) (hl : (n + 1) * bytes ≤ 140737488355328)
    (h : ∀ A' cap' w1, Hid (w1.ownsRow base e size (.slice A' (n + 1) cap') (n + 1) (xs ++ ys)) → Hid (Only (fun k => (Value.slice A n cap).ownBlock = some k) W w1) → Hid (∀ k, (Value.slice A' (n + 1) cap').ownBlock = some k → (Value.slice A n cap).ownBlock = some k ∨ W.heap.size ≤ k) → wpList P ops Q rest (a.put o.dst (.slice A' (n + 1) cap')) w1) :
    wpList P ops Q (o :: rest) a (W.alloc (.cells ys.toArray e)) := by
  subst hH
  refine print_append_cells (w0 := W) (W := W) base hgd s x t e z size bytes ho ht hinfo hz hs0 hb0 _ n xs ys hs hx hys hu hO (Below.refl _ _) hbase hl ?_
  intro v1 w1 h1 _ h3 h4
  obtain ⟨A', c', rfl⟩ := own_slice h1
  refine h A' c' w1 (Lib.hid h1) (Lib.hid (Only.grown h3 (fun k hk => hk))) (Lib.hid (fun k hk => ?_))
  rcases h4 with h4 | ⟨b, h4, h5⟩
  · exact .inl (h4 ▸ hk)
  · rw [h4] at hk
    injection hk with hk
    exact .inr (hk ▸ h5)
end
theorem exCellsT_one (y : Ex) (v : Value) (hv : v.oneCell' = true) : ∀ u ∈ exCellsT y v, u.oneCell' = true := by
  intro u hu
  simp only [exCellsT, List.mem_cons, List.not_mem_nil, or_false] at hu
  rcases hu with rfl | rfl | rfl | rfl | rfl | rfl | rfl | rfl | rfl | rfl
  all_goals first | exact hv | rfl

def TwPost (R : Nat) (ls : List Value) (vL : Value) (x : Ex) (w : World) (e : Ending) (w' : World) : Prop :=
  ∃ A' added vL', e = .returned (exV x (.slice A' x.f6.length (x.f6.length + 12))) ∧ RoomT w' R (ls ++ added) vL' ∧ (∀ k, vL'.ownBlock = some k → vL.ownBlock = some k ∨ w.heap.size ≤ k) ∧ w.heap.size ≤ w'.heap.size ∧ RdR w.heap.size w'.heap.size w' A' x.f6.length x.f6 ∧ (∀ v ∈ added, MarkV w.heap.size w'.heap.size w' v) ∧ Only (RS R vL) w w' ∧ added.length = exN x

theorem reps_len (l : List Value) (k : Nat) : (reps l k).length = k * l.length := by
  unfold reps
  rw [flat_len (fun _ => l) l.length _ (fun _ _ => rfl), List.length_range]
theorem twin_end {w W1 w3 w5 wF : World} {R : Nat} {ls added : List Value} {vL : Value} {AL AL' : Option Addr} {nl cL cL' g k m' c6 : Nat} {x : Ex} {xs : List Value}
    (hW1 : W1.heap.size = w.heap.size + 2) (hb : Below w.heap.size w W1) (hk : k = x.f6.length) (hm' : m' = k + 12)
    (hO : w3.ownsRow W1.heap.size 31 10 (.slice (some ⟨g, 0, none⟩) m' c6) m' (xs ++ reps (nodeC 77) 12)) (hKR : KidsR W1.heap.size w3 (.slice (some ⟨g, 0, none⟩) m' c6) x.f6 xs)
    (hnl : nl = (ls ++ added).length) (hRk : RoomT w3 R (ls ++ added) (.slice AL nl cL)) (hvk : ∀ b, (Value.slice AL nl cL).ownBlock = some b → vL.ownBlock = some b ∨ W1.heap.size ≤ b)
    (hMk : ∀ v ∈ added, ∃ lo hi, W1.heap.size ≤ lo ∧ hi ≤ w3.heap.size ∧ MarkV lo hi w3 v ∧ ∀ b, (Value.slice (some ⟨g, 0, none⟩) m' c6).ownBlock = some b → b < lo ∨ hi ≤ b) (hOn : Only (RS R vL) W1 w3)
    (hO5 : w5.ownsRow 0 24 1 (.slice AL' (nl + 1) cL') (nl + 1) ((ls ++ added) ++ [.slice (some ⟨g, 0, none⟩) m' c6])) (hOn5 : Only (fun b => (Value.slice AL nl cL).ownBlock = some b) w3 w5)
    (hB5 : ∀ b, (Value.slice AL' (nl + 1) cL').ownBlock = some b → (Value.slice AL nl cL).ownBlock = some b ∨ w3.heap.size ≤ b)
    (hG5 : w5.heap[R]? = some (.cells #[.slice AL nl cL] 94 (0, 0))) (hX5 : ∃ c, w5.heap[w.heap.size]? = some (.cells c 31 (0, 0))) (hZ5 : ∃ c, w5.heap[w.heap.size + 1]? = some (.cells c 31 (0, 0)))
    (hF : Only (fun b => b = R ∨ b = w.heap.size ∨ b = w.heap.size + 1) w5 wF) (hGF : wF.heap[R]? = some (.cells #[.slice AL' (nl + 1) cL'] 94 (0, 0))) (hRT : RoomT w R ls vL) (hal : added.length = exNL x.f6) :
    TwPost R ls vL x w (.returned (exV x (.slice (some ⟨g, 0, none⟩) k m'))) wF := by
  have s1 := hOn.size
  have s5 := hOn5.size
  have sF := hF.size
  have t24 : ∀ b, (Value.slice AL nl cL).ownBlock = some b → ∃ c, w3.heap[b]? = some (.cells c 24 (0, 0)) := fun b hb => own_typed hRk.hL b hb
  -- blocks of expressions from W1 on stay from w3 to wF
  have hst : ∀ b, W1.heap.size ≤ b → b < w3.heap.size → (∃ c, w3.heap[b]? = some (.cells c 31 (0, 0))) → wF.heap[b]? = w3.heap[b]? := by
    rintro b h1 h2 ⟨c, hc⟩
    have e5 := hOn5.block b h2 (fun hs => by obtain ⟨c', hc'⟩ := t24 b hs; exact two_types31 hc hc' (by decide))
    refine (hF.block b (by omega) (fun hs => ?_)).trans e5
    rcases hs with rfl | rfl | rfl
    · exact two_types31 hc hRk.hR (by decide)
    · omega
    · omega
  have hgb := own_base hO g rfl
  have hgl := own_lt hO g rfl
  have hgt := own_typed hO g rfl
  have hxl : xs.length = k * 10 := by
    have := hO.1
    rw [List.length_append, reps_len] at this
    have h2 : (nodeC 77).length = 10 := rfl
    omega
  have hmm : m' ≤ 9223372036854775807 := by
    obtain ⟨_, _, _, h1, h2, _⟩ := own_shape hO
    omega
  refine ⟨_, added ++ [.slice (some ⟨g, 0, none⟩) m' c6], _, by rw [hm', hk], ⟨hGF, ?_⟩, fun b hb => ?_, by omega, ?_, ?_, ?_, ?_⟩
  · rw [← List.append_assoc]
    have : ((ls ++ added) ++ [Value.slice (some ⟨g, 0, none⟩) m' c6]).length = nl + 1 := by rw [List.length_append, List.length_singleton, hnl]
    rw [this]
    refine hF.own hO5 (fun b hb hs => ?_)
    obtain ⟨c, hc⟩ := own_typed hO5 b hb
    rcases hs with rfl | rfl | rfl
    · exact two_types31 hc hG5 (by decide)
    · obtain ⟨c', hc'⟩ := hX5; exact two_types31 hc hc' (by decide)
    · obtain ⟨c', hc'⟩ := hZ5; exact two_types31 hc hc' (by decide)
  · rcases hB5 b hb with h | h
    · rcases hvk b h with h | h
      · exact Or.inl h
      · exact Or.inr (by omega)
    · exact Or.inr (by omega)
  · intro w'' hw
    have hag : ∀ b, W1.heap.size ≤ b → b < w3.heap.size → (∃ c, w3.heap[b]? = some (.cells c 31 (0, 0))) → w''.heap[b]? = w3.heap[b]? := by
      rintro b h1 h2 ⟨c, hc⟩
      have e := hst b h1 h2 ⟨c, hc⟩
      exact (hw b (by omega) (by omega) (by simp) ⟨c, e.trans hc⟩).trans e
    have hrow := own_move hO (fun b hb => by
      have : g = b := by simpa [Value.ownBlock] using hb
      subst this
      exact hag g hgb hgl hgt)
    have hrow2 := own_prefix (n := k) hrow hxl (by simp) (by omega)
    have hreps := hKR w'' (fun b h1 h2 _ h4 => hag b h1 h2 h4)
    obtain ⟨A, c, hv, hC⟩ := own_reads_row hrow2 hreps hk.symm
    injection hv with h1 h2 h3
    rw [h1, ← hk]
    exact hC
  · intro v hv
    rcases List.mem_append.1 hv with hv | hv
    · obtain ⟨lo, hi, h1, h2, h3, _⟩ := hMk v hv
      exact (h3.move (fun b b1 b2 _ b4 => hst b (by omega) (by omega) b4)).wide (by omega) (by omega)
    · rw [List.mem_singleton.1 hv]
      have hrow := own_move hO (w1 := wF) (fun b hb => by
        have : g = b := by simpa [Value.ownBlock] using hb
        subst this
        exact hst g hgb hgl hgt)
      rcases hrow.2 with ⟨he, _⟩ | ⟨g', cap', cur, he, _, hh, hnc, hm, hcs, htk⟩
      · injection he with h1 _ _; cases h1
      · injection he with e1 _ e3
        injection e1 with e1
        injection e1 with e1
        subst e1
        refine ⟨g, k, c6, cur, by rw [hm'], by omega, by omega, hh, by omega, fun i hi => ?_⟩
        have h1 : (cur.toList.take (m' * 10))[(k + i) * 10]? = cur[(k + i) * 10]? := by
          rw [List.getElem?_take, if_pos (by omega), Array.getElem?_toList]
        rw [← h1, htk, List.getElem?_append_right (by omega), hxl, show (k + i) * 10 - k * 10 = i * 10 + 0 by omega]
        have h2 := flat_at (fun _ : Nat => nodeC 77) 10 (List.range 12) (fun _ _ => rfl) i _ (List.getElem?_eq_getElem (by rw [List.length_range]; exact hi))
        have h3 := congrArg (fun z => z[0]?) h2
        simp only [List.getElem?_take, if_pos (show 0 < 10 by decide), List.getElem?_drop] at h3
        exact h3
  · refine (((Only.of_below (S := RS R vL) hb).same hOn).trans hOn5 (fun b hb hs => ?_)).trans hF (fun b hb hs => ?_)
    · rcases hvk b hs with h | h
      · exact Or.inr h
      · omega
    · rcases hs with h | h | h
      · exact Or.inl h
      · omega
      · omega
  · rw [List.length_append, List.length_singleton, hal, exN_eq]

set_option maxHeartbeats 8000000 in
set_option maxRecDepth 100000 in
theorem twinX_any (w0 : World) : ∀ (m : Nat) (x : Ex) (A : Option Addr) (c : Nat) (w : World) (R : Nat) (ls : List Value) (vL : Value), exN x ≤ m → exN x + ls.length ≤ 100000000000 → x.f6.length ≤ c → kEx.C w0 A x.f6.length x.f6 → Below w0.heap.size w0 w → RoomT w R ls vL → (∀ b, RS R vL b → w0.heap.size ≤ b) →
    Calls Try.prog 41 #[.pointer (some ⟨R, 0, none⟩), exV x (.slice A x.f6.length c)] w (TwPost R ls vL x w) := by
  intro m
  induction m with
  | zero => intro x A c w R ls vL h; rw [exN_eq] at h; omega
  | succ m ih =>
    intro x A c w R ls vL hm hN hc hC hb hRT hRB
    rw [exN_eq] at hm hN
    have hmx := hC.2.1
    have hxl : x.f6.length ≤ 100000000000 := by have := exNL_len x.f6; omega
    have hb1 := below_new w (.cells #[.int .i64 x.f0, .int .i64 x.f1, .int .i64 x.f2.f0, .int .i64 x.f2.f1, .string x.f2.f2, .bool x.f2.f3, .string x.f3, .int .i64 x.f4, .string x.f5, .slice A x.f6.length c] 31)
    have hb2 := below_step hb1 (below_new _ (.cells #[.int .i64 0, .int .i64 0, .int .i64 0, .int .i64 0, .string ⟨#[]⟩, .bool false, .string ⟨#[]⟩, .int .i64 0, .string ⟨#[]⟩, .slice none 0 0] 31))
    have hX := blk_below (blk_new w (.cells #[.int .i64 x.f0, .int .i64 x.f1, .int .i64 x.f2.f0, .int .i64 x.f2.f1, .string x.f2.f2, .bool x.f2.f3, .string x.f3, .int .i64 x.f4, .string x.f5, .slice A x.f6.length c] 31)) (below_new _ (.cells #[.int .i64 0, .int .i64 0, .int .i64 0, .int .i64 0, .string ⟨#[]⟩, .bool false, .string ⟨#[]⟩, .int .i64 0, .string ⟨#[]⟩, .slice none 0 0] 31))
    have hZ := blk_new (w.alloc (.cells #[.int .i64 x.f0, .int .i64 x.f1, .int .i64 x.f2.f0, .int .i64 x.f2.f1, .string x.f2.f2, .bool x.f2.f3, .string x.f3, .int .i64 x.f4, .string x.f5, .slice A x.f6.length c] 31)) (.cells #[.int .i64 0, .int .i64 0, .int .i64 0, .int .i64 0, .string ⟨#[]⟩, .bool false, .string ⟨#[]⟩, .int .i64 0, .string ⟨#[]⟩, .slice none 0 0] 31)
    have HS2 := Lib.hid (show ((w.alloc (.cells #[.int .i64 x.f0, .int .i64 x.f1, .int .i64 x.f2.f0, .int .i64 x.f2.f1, .string x.f2.f2, .bool x.f2.f3, .string x.f3, .int .i64 x.f4, .string x.f5, .slice A x.f6.length c] 31)).alloc (.cells #[.int .i64 0, .int .i64 0, .int .i64 0, .int .i64 0, .string ⟨#[]⟩, .bool false, .string ⟨#[]⟩, .int .i64 0, .string ⟨#[]⟩, .slice none 0 0] 31)).heap.size = w.heap.size + 2 by rw [alloc_size', alloc_size'])
    rw [alloc_size'] at hZ
    have HX := Lib.hid hX
    have HZ := Lib.hid hZ
    have HC := Lib.hid hC
    have HB2 := Lib.hid hb2
    have HB0 := Lib.hid (hb.trans (hb2.mono hb.size))
    have HRT1 := Lib.hid (hRT.only (S := fun _ => False) (Only.of_below hb2) (fun _ _ h => h))
    have HRT := Lib.hid hRT
    have HRB := Lib.hid hRB
    have HN := Lib.hid hN
    have HM := Lib.hid hm
    clear hC hb hRT hRB hb1 hb2 hX hZ hN hm
    unfold exV
    go_enter Try.func41, Try.ntmps41
    go_wp2_with fail
    generalize (w.alloc (.cells #[.int .i64 x.f0, .int .i64 x.f1, .int .i64 x.f2.f0, .int .i64 x.f2.f1, .string x.f2.f2, .bool x.f2.f3, .string x.f3, .int .i64 x.f4, .string x.f5, .slice A x.f6.length c] 31)).alloc (.cells #[.int .i64 0, .int .i64 0, .int .i64 0, .int .i64 0, .string ⟨#[]⟩, .bool false, .string ⟨#[]⟩, .int .i64 0, .string ⟨#[]⟩, .slice none 0 0] 31) = W1 at *
    obtain ⟨n, hn⟩ : ∃ n, n = x.f6.length := ⟨_, rfl⟩
    rw [← hn] at HX hxl hc hmx ⊢
    have HNN := Lib.hid hn
    clear hn
    go_loopw [5, 6] (fun t5 t6 wr => ∃ (k : Nat) (A5 : Option Addr) (c5 : Nat) (xs : List Value) (added : List Value) (vL' : Value), k ≤ n ∧ t6 = .int .i64 k ∧ t5 = .slice A5 k c5 ∧ Hid (wr.ownsRow W1.heap.size 31 10 (.slice A5 k c5) k xs) ∧ Hid (KidsR W1.heap.size wr (.slice A5 k c5) (x.f6.take k) xs) ∧ Hid (RoomT wr R (ls ++ added) vL') ∧ Hid (∀ b, vL'.ownBlock = some b → vL.ownBlock = some b ∨ W1.heap.size ≤ b) ∧ Hid (∀ v ∈ added, ∃ lo hi, W1.heap.size ≤ lo ∧ hi ≤ wr.heap.size ∧ MarkV lo hi wr v ∧ ∀ b, (Value.slice A5 k c5).ownBlock = some b → b < lo ∨ hi ≤ b) ∧ Hid (Only (RS R vL) W1 wr) ∧ Hid (added.length = exNL (x.f6.take k))) (fun _ t6 _ => n - (intOf t6).toNat)
    case atStart => exact ⟨0, none, 0, [], [], vL, by omega, rfl, rfl, Lib.hid (own_nil _ _ _ _), Lib.hid (fun w'' _ => by rw [List.take_zero]; exact Reps.none _ _), Lib.hid (by rw [List.append_nil]; exact HRT1.out), Lib.hid (fun b hb => Or.inl hb), Lib.hid (fun v hv => by cases hv), Lib.hid (Only.refl _ _), Lib.hid (by rw [List.take_zero]; rfl)⟩
    case round =>
      obtain ⟨k, A5, c5, xs, added, vL', hk, rfl, rfl, hO, hKR, hRk, hvk, hMk, hOn, hAl⟩ := hrel
      generalize wr = w2 at *
      have hsz := hOn.out.size
      have hW0 : Below w0.heap.size w0 w2 := (HB0.out).trans (hOn.out.below HB0.out.size (fun b hb hs => by have := HRB.out b hs; omega))
      have hXX := (HRT1.out.keep31 hOn.out) w.heap.size ⟨_, HX.out⟩
      have hX2 := hXX.trans HX.out
      have HW0 := Lib.hid hW0
      have HX2 := Lib.hid hX2
      have y9 := (blk_cell hX2 9).trans rfl
      clear hW0 hXX hX2
      by_cases hlt : k < n
      · have hlt' : k < x.f6.length := by have := HNN.out; omega
        have hat := atEx HC.out k (by omega) (by have := HNN.out; omega)
        simp only [Int.toNat_natCast] at hat
        obtain ⟨ad, B9, b9, rfl, e0, e1, e2, e3, e4, e5, e6, e7, e8, e9, hl9, hi9⟩ := hat
        have e0 := pw_cell_below HW0.out e0
        have e1 := pw_cell_below HW0.out e1
        have e2 := pw_cell_below HW0.out e2
        have e3 := pw_cell_below HW0.out e3
        have e4 := pw_cell_below HW0.out e4
        have e5 := pw_cell_below HW0.out e5
        have e6 := pw_cell_below HW0.out e6
        have e7 := pw_cell_below HW0.out e7
        have e8 := pw_cell_below HW0.out e8
        have e9 := pw_cell_below HW0.out e9
        have HR := Lib.hid (rdEx_get x.f6 k hlt')
        generalize rdEx x.f6 k = y at *
        have HT := Lib.hid (show x.f6.take (k + 1) = x.f6.take k ++ [y] by rw [List.take_succ_eq_append_getElem hlt', HR.out])
        have HTN := Lib.hid (show exNL (x.f6.take (k + 1)) = exNL (x.f6.take k) + exN y by rw [exNL_take_succ x.f6 k hlt', HR.out])
        have HTL := Lib.hid (exNL_take x.f6 (k + 1))
        have HYN := Lib.hid (show exN y ≤ exNL x.f6 by rw [HR.out]; exact exN_get _ _ hlt')
        have HL9 := Lib.hid hl9
        have HI9 := Lib.hid hi9
        clear hl9 hi9 HR hlt'
        have i1 : (0 : Int) ≤ (k : Int) := by omega
        have i2 : (k : Int) < (n : Int) := by omega
        go_wp2_with fail
        have HCL := ih y B9 b9 w2 R (ls ++ added) vL' (by have := HYN.out; have := HM.out; omega) (by have h1 := HN.out; have h2 := hAl.out; have h3 := HTN.out; have h4 := HTL.out; rw [List.length_append]; omega) HL9.out HI9.out HW0.out hRk.out (fun b hb => by
          rcases hb with hb | hb
          · exact HRB.out b (Or.inl hb)
          · rcases hvk.out b hb with h | h
            · exact HRB.out b (Or.inr h)
            · have := HB0.out.size; omega)
        unfold exV at HCL
        refine HCL.mono ?_
        rintro e W3 ⟨A', added', vL'', he, hR3, hv3, hs3, hrd3, hm3, hOn3, hal3⟩
        unfold exV at he
        subst he
        have HR3 := Lib.hid hR3
        have HV3 := Lib.hid hv3
        have HRD3 := Lib.hid hrd3
        have HM3 := Lib.hid hm3
        have HOn3 := Lib.hid hOn3
        have HAL3 := Lib.hid hal3
        have h31 := Lib.hid (hRk.out.keep31 hOn3)
        have hO3 := Lib.hid (hOn3.own hO.out (fun b hb hs => hRk.out.not31 b hs (own_typed hO.out b hb)))
        clear hR3 hv3 hrd3 hm3 hOn3 hal3 HCL e0 e1 e2 e3 e4 e5 e6 e7 e8 e9 y9
        obtain ⟨ly, hly⟩ : ∃ ly, ly = y.f6.length := ⟨_, rfl⟩
        rw [← hly] at HRD3 ⊢
        have HLY := Lib.hid hly
        clear hly
        have hb4 := below_new W3 (.cells #[.int .i64 y.f0, .int .i64 y.f1, .int .i64 y.f2.f0, .int .i64 y.f2.f1, .string y.f2.f2, .bool y.f2.f3, .string y.f3, .int .i64 y.f4, .string y.f5, .slice A' ly (ly + 12)] 31)
        have hX4 := blk_new W3 (.cells #[.int .i64 y.f0, .int .i64 y.f1, .int .i64 y.f2.f0, .int .i64 y.f2.f1, .string y.f2.f2, .bool y.f2.f3, .string y.f3, .int .i64 y.f4, .string y.f5, .slice A' ly (ly + 12)] 31)
        have HO4 := Lib.hid (pw_own_below hO3.out hb4)
        have HB4 := Lib.hid hb4
        have q0 := (blk_cell hX4 0).trans rfl
        have q1 := (blk_cell hX4 1).trans rfl
        have q2 := (blk_cell hX4 2).trans rfl
        have q3 := (blk_cell hX4 3).trans rfl
        have q4 := (blk_cell hX4 4).trans rfl
        have q5 := (blk_cell hX4 5).trans rfl
        have q6 := (blk_cell hX4 6).trans rfl
        have q7 := (blk_cell hX4 7).trans rfl
        have q8 := (blk_cell hX4 8).trans rfl
        have q9 := (blk_cell hX4 9).trans rfl
        have hle : (k + 1) * 120 ≤ 140737488355328 := by omega
        have HBS := Lib.hid (show W1.heap.size ≤ (W3.alloc (.cells #[.int .i64 y.f0, .int .i64 y.f1, .int .i64 y.f2.f0, .int .i64 y.f2.f1, .string y.f2.f2, .bool y.f2.f3, .string y.f3, .int .i64 y.f4, .string y.f5, .slice A' ly (ly + 12)] 31)).heap.size by have := hb4.size; omega)
        clear hb4 hX4
        go_wp2_with (at_builtin; go_must (refine app_cellsB (W := W3.alloc (.cells #[.int .i64 y.f0, .int .i64 y.f1, .int .i64 y.f2.f0, .int .i64 y.f2.f1, .string y.f2.f2, .bool y.f2.f3, .string y.f3, .int .i64 y.f4, .string y.f5, .slice A' ly (ly + 12)] 31)) W1.heap.size (W3.heap.size + 1) (alloc_size' _ _) HBS.out (by rfl) _ _ 24 31 _ 10 120 (by rfl) Try.underlying24 infoEx (by rfl) (by decide) (by decide) A5 k c5 xs (exCellsT y (.slice A' ly (ly + 12))) HO4.out (by rfl) (exCellsT_one y _ rfl) (by rfl) (by rfl) hle ?_))
        intro A5' c5' w5 hO5 hOn5 hB5
        have hs4 : (W3.alloc (.cells #[.int .i64 y.f0, .int .i64 y.f1, .int .i64 y.f2.f0, .int .i64 y.f2.f1, .string y.f2.f2, .bool y.f2.f3, .string y.f3, .int .i64 y.f4, .string y.f5, .slice A' ly (ly + 12)] 31)).heap.size = W3.heap.size + 1 := alloc_size' _ _
        have h45 := Lib.hid (show ∀ b, b < W3.heap.size → (Value.slice A5 k c5).ownBlock ≠ some b → w5.heap[b]? = W3.heap[b]? from fun b hb hn => (hOn5.out.block b (by omega) (fun h => hn h)).trans (HB4.out.block b hb))
        have h5s := hOn5.out.size
        have hol := Lib.hid (fun b hb => own_lt hO.out b hb)
        have hob := Lib.hid (fun b hb => own_base hO.out b hb)
        have hB5' := Lib.hid (show ∀ b, (Value.slice A5' (k + 1) c5').ownBlock = some b → (Value.slice A5 k c5).ownBlock = some b ∨ W3.heap.size ≤ b from fun b hb => (hB5.out b hb).imp id (fun h => by omega))
        have HS5 := Lib.hid (show W3.heap.size ≤ w5.heap.size by omega)
        have hKR5 := Lib.hid (show KidsR W1.heap.size w5 (.slice A5' (k + 1) c5') (x.f6.take (k + 1)) (xs ++ exCellsT y (.slice A' ly (ly + 12))) by
          rw [HT.out, HLY.out]
          refine KidsR.snoc (w2 := W3) hKR.out (lo2 := w2.heap.size) hsz (Nat.le_refl _) HS5.out hs3 (fun b h1 h2 h3 => (h45.out b (by omega) h2).trans (h31.out b h3)) (fun b h1 h2 => h45.out b h2 (fun h => by have := hol.out b h; omega)) hB5'.out hol.out (by rw [← HLY.out]; exact HRD3.out) (by omega))
        have hRk5 := Lib.hid (show RoomT w5 R (ls ++ (added ++ added')) vL'' by
          rw [← List.append_assoc]
          have h1 := HR3.out.only (S := fun _ => False) (Only.of_below HB4.out) (fun _ _ h => h)
          exact h1.only hOn5.out (fun b hb hs => h1.not31 b hb (own_typed HO4.out b hs)))
        have hMk5 := Lib.hid (show ∀ v ∈ added ++ added', ∃ lo hi, W1.heap.size ≤ lo ∧ hi ≤ w5.heap.size ∧ MarkV lo hi w5 v ∧ ∀ b, (Value.slice A5' (k + 1) c5').ownBlock = some b → b < lo ∨ hi ≤ b by
          intro v hv
          rcases List.mem_append.1 hv with hv | hv
          · obtain ⟨lo, hi, h1, h2, h3, h4⟩ := hMk.out v hv
            refine ⟨lo, hi, h1, by have := HS5.out; omega, h3.move (fun b b1 b2 _ b4 => (h45.out b (by omega) (fun hb => by have := h4 b hb; omega)).trans (h31.out b b4)), fun b hb => ?_⟩
            rcases hB5'.out b hb with h5 | h5
            · exact h4 b h5
            · exact Or.inr (by omega)
          · refine ⟨w2.heap.size, W3.heap.size, hsz, HS5.out, (HM3.out v hv).move (fun b b1 b2 _ b4 => h45.out b b2 (fun hb => by have := hol.out b hb; omega)), fun b hb => ?_⟩
            rcases hB5'.out b hb with h5 | h5
            · exact Or.inl (hol.out b h5)
            · exact Or.inr h5)
        have hOnn := Lib.hid (show Only (RS R vL) W1 w5 from ((hOn.out.trans HOn3.out (fun b hb hs => by
            rcases hs with hs | hs
            · exact Or.inl hs
            · rcases hvk.out b hs with h | h
              · exact Or.inr h
              · omega)).same (Only.of_below HB4.out)).trans hOn5.out (fun b hb hs => by have := hob.out b hs; omega))
        have hvk5 := Lib.hid (show ∀ b, vL''.ownBlock = some b → vL.ownBlock = some b ∨ W1.heap.size ≤ b from fun b hb => by
          rcases HV3.out b hb with h | h
          · exact hvk.out b h
          · exact Or.inr (by omega))
        have hal5 := Lib.hid (show (added ++ added').length = exNL (x.f6.take (k + 1)) by rw [List.length_append, hAl.out, HAL3.out, HTN.out])
        clear h45 h31 hs4
        go_wp2_with fail
        go_roundw
        case rel => exact ⟨k + 1, A5', c5', xs ++ exCellsT y (.slice A' ly (ly + 12)), added ++ added', vL'', by omega, by go_num, rfl, hO5, hKR5, hRk5, hvk5, hMk5, hOnn, hal5⟩
        case measure => simp [intOf]; omega
      · obtain rfl : k = n := by omega
        have htk : x.f6.take k = x.f6 := List.take_of_length_le (by have := HNN.out; omega)
        have hKR' := hKR.out
        rw [htk] at hKR'
        have HKR := Lib.hid hKR'
        have HAL := Lib.hid (show added.length = exNL x.f6 by rw [hAl.out, htk])
        have hO0 := hO
        have hRk0 := hRk
        have hMk0 := hMk
        have hOn0 := hOn
        clear hKR' htk
        go_wp2_with fail
        go_loopw [5, 9] (fun t5 t9 wr => ∃ (j m' : Nat) (A5 : Option Addr) (c5 : Nat), j ≤ 12 ∧ t9 = .int .i64 j ∧ Hid (m' = k + j) ∧ t5 = .slice A5 m' c5 ∧ Hid (wr.ownsRow W1.heap.size 31 10 (.slice A5 m' c5) m' (xs ++ reps (nodeC 77) j)) ∧ Hid (KidsR W1.heap.size wr (.slice A5 m' c5) x.f6 xs) ∧ Hid (RoomT wr R (ls ++ added) vL') ∧ Hid (∀ v ∈ added, ∃ lo hi, W1.heap.size ≤ lo ∧ hi ≤ wr.heap.size ∧ MarkV lo hi wr v ∧ ∀ b, (Value.slice A5 m' c5).ownBlock = some b → b < lo ∨ hi ≤ b) ∧ Hid (Only (RS R vL) W1 wr)) (fun _ t9 _ => 12 - (intOf t9).toNat)
        case atStart => exact ⟨0, k, A5, c5, by omega, rfl, Lib.hid rfl, rfl, Lib.hid (by rw [reps_zero, List.append_nil]; exact hO0.out), HKR, hRk0, hMk0, hOn0⟩
        case round =>
          clear hO0 hRk0 hMk0 hOn0 hO hRk hMk hOn hKR HKR y9 HX2
          obtain ⟨j, m', A6, c6, hj, rfl, hm', rfl, hO, hKR, hRk, hMk, hOn⟩ := hrel
          generalize wr = w3 at *
          have hsz := hOn.out.size
          by_cases hjl : j < 12
          · have hle : (m' + 1) * 120 ≤ 140737488355328 := by have := hm'.out; omega
            go_wp2_with (at_builtin; go_must (refine app_cellsB (W := w3) W1.heap.size w3.heap.size (by rfl) hsz (by rfl) _ _ 24 31 _ 10 120 (by rfl) Try.underlying24 infoEx (by rfl) (by decide) (by decide) A6 m' c6 _ (nodeC 77) hO.out (by rfl) (nodeC_one 77) (by rfl) (by rfl) hle ?_))
            intro A7 c7 w5 hO5 hOn5 hB5
            have h5s := hOn5.out.size
            have h45 := Lib.hid (show ∀ b, b < w3.heap.size → (Value.slice A6 m' c6).ownBlock ≠ some b → w5.heap[b]? = w3.heap[b]? from fun b hb hn => hOn5.out.block b hb (fun h => hn h))
            have hob := Lib.hid (fun b hb => own_base hO.out b hb)
            have hKR5 := Lib.hid (KidsR.step hKR.out h5s (fun b h1 h2 _ => h45.out b h1 h2) hB5.out)
            have hRk5 := Lib.hid (hRk.out.only hOn5.out (fun b hb hs => hRk.out.not31 b hb (own_typed hO.out b hs)))
            have hMk5 := Lib.hid (show ∀ v ∈ added, ∃ lo hi, W1.heap.size ≤ lo ∧ hi ≤ w5.heap.size ∧ MarkV lo hi w5 v ∧ ∀ b, (Value.slice A7 (m' + 1) c7).ownBlock = some b → b < lo ∨ hi ≤ b by
              intro v hv
              obtain ⟨lo, hi, h1, h2, h3, h4⟩ := hMk.out v hv
              refine ⟨lo, hi, h1, by omega, h3.move (fun b b1 b2 _ b4 => h45.out b (by omega) (fun hb => by have := h4 b hb; omega)), fun b hb => ?_⟩
              rcases hB5.out b hb with h5 | h5
              · exact h4 b h5
              · exact Or.inr (by omega))
            have hOnn := Lib.hid (hOn.out.trans hOn5.out (fun b hb hs => by have := hob.out b hs; omega))
            clear h45
            go_wp2_with fail
            go_roundw
            case rel => exact ⟨j + 1, m' + 1, A7, c7, by omega, by go_num, Lib.hid (by have := hm'.out; omega), rfl, Lib.hid (by rw [reps_succ]; exact hO5.out), hKR5, hRk5, hMk5, hOnn⟩
            case measure => simp [intOf]; omega
          · obtain rfl : j = 12 := by omega
            obtain ⟨_, _, he, hs1, hs2, hA6, -⟩ := own_shape hO.out
            injection he with he1 he2 he3
            subst he3
            rw [← he1] at hA6
            clear he1 he2
            obtain ⟨g, rfl⟩ := hA6 (by have := hm'.out; omega)
            clear hA6
            obtain ⟨nl, hnl⟩ : ∃ nl, nl = (ls ++ added).length := ⟨_, rfl⟩
            have hnb : (nl + 1) * 24 ≤ 140737488355328 := by
              have h1 := HAL.out
              have h2 := HN.out
              rw [List.length_append] at hnl
              omega
            have hRL := hRk.out.hL
            rw [← hnl] at hRL
            obtain ⟨AL, cL, rfl, hl1, hl2, -, -⟩ := own_shape hRL
            have HRL := Lib.hid hRL
            have HNL := Lib.hid hnl
            have HGR := Lib.hid hRk.out.hR
            have HXr := Lib.hid ((HRT1.out.keep31 hOn.out w.heap.size ⟨_, HX.out⟩).trans HX.out)
            have HZr := Lib.hid ((HRT1.out.keep31 hOn.out (w.heap.size + 1) ⟨_, HZ.out⟩).trans HZ.out)
            have r0 := (blk_cell HGR.out 0).trans rfl
            have hcut := cutHM g k m' c6 (by have := hm'.out; omega) (by omega) (by have := hm'.out; omega)
            clear hRL hnl
            go_wp2_with (at_builtin; go_must (refine app_one (W := w3) w3.heap.size (by rfl) (by rfl) _ _ 58 24 _ 24 (by rfl) Try.underlying58 info58 (by rfl) (by decide) AL nl cL _ (.slice (some ⟨g, 0, none⟩) m' c6) HRL.out (by rfl) (by rfl) (by rfl) hnb ?_))
            intro AL' cL' w5 hO5 hOn5 hB5
            have HG5 := Lib.hid (hOn5.out.blk HGR.out (fun hk => by
              obtain ⟨c', hc'⟩ := own_typed HRL.out R hk
              exact two_types31 hc' HGR.out (by decide)))
            have HX5 := Lib.hid (hOn5.out.blk HXr.out (fun hk => by
              obtain ⟨c', hc'⟩ := own_typed HRL.out _ hk
              exact two_types31 hc' HXr.out (by decide)))
            have HZ5 := Lib.hid (hOn5.out.blk HZr.out (fun hk => by
              obtain ⟨c', hc'⟩ := own_typed HRL.out _ hk
              exact two_types31 hc' HZr.out (by decide)))
            have hne1 : R ≠ w.heap.size := fun e => by
              have h1 := HG5.out
              rw [e] at h1
              exact two_types31 h1 HX5.out (by decide)
            have hne2 : R ≠ w.heap.size + 1 := fun e => by
              have h1 := HG5.out
              rw [e] at h1
              exact two_types31 h1 HZ5.out (by decide)
            clear r0
            have r0 := (blk_cell HG5.out 0).trans rfl
            have rz := blk_frozen HG5.out 0
            have HX6 := blk_far HX5.out (p := ⟨R, 0, none⟩) (by show w.heap.size ≠ R; omega) (.slice AL' (nl + 1) cL')
            have HZ6 := blk_far HZ5.out (p := ⟨R, 0, none⟩) (by show w.heap.size + 1 ≠ R; omega) (.slice AL' (nl + 1) cL')
            have y0 := (blk_cell HX6 0).trans rfl
            have y1 := (blk_cell HX6 1).trans rfl
            have y2 := (blk_cell HX6 2).trans rfl
            have y3 := (blk_cell HX6 3).trans rfl
            have y4 := (blk_cell HX6 4).trans rfl
            have y5 := (blk_cell HX6 5).trans rfl
            have y6 := (blk_cell HX6 6).trans rfl
            have y7 := (blk_cell HX6 7).trans rfl
            have y8 := (blk_cell HX6 8).trans rfl
            have y9 := (blk_cell HX6 9).trans rfl
            have z0 := (blk_cell HZ6 0).trans rfl
            have z1 := (blk_cell HZ6 1).trans rfl
            have z2 := (blk_cell HZ6 2).trans rfl
            have z3 := (blk_cell HZ6 3).trans rfl
            have z4 := (blk_cell HZ6 4).trans rfl
            have z5 := (blk_cell HZ6 5).trans rfl
            have z6 := (blk_cell HZ6 6).trans rfl
            have z7 := (blk_cell HZ6 7).trans rfl
            have z8 := (blk_cell HZ6 8).trans rfl
            have z9 := (blk_cell HZ6 9).trans rfl
            have f1 := blk_frozen HX6
            have f2 := blk_frozen HZ6
            have HHX6 := Lib.hid HX6
            have HHZ6 := Lib.hid HZ6
            clear HX6 HZ6
            go_wp2_with fail
            have HF6 := blk_far (p := ⟨w.heap.size, 9, none⟩) HHZ6.out (by show w.heap.size + 1 ≠ w.heap.size; omega) (.slice (some ⟨g, 0, none⟩) k m')
            refine bodyPost_ret (results_cell_row rfl _ _ (w.heap.size + 1) 31 #[.int .i64 x.f0, .int .i64 x.f1, .int .i64 x.f2.f0, .int .i64 x.f2.f1, .string x.f2.f2, .bool x.f2.f3, .string x.f3, .int .i64 x.f4, .string x.f5, .slice (some ⟨g, 0, none⟩) k m'] (0, 0) _ rfl (blk_set10 HF6 _ _ _ _ _ _ _ _ _ _) Try.underlying31 rfl (by kernel_rfl)) rfl ?_
            refine twin_end HS2.out HB2.out HNN.out hm'.out hO.out hKR.out HNL.out hRk.out hvk.out hMk.out hOn.out (by rw [List.append_assoc]; exact hO5.out) hOn5.out hB5.out HG5.out ⟨_, HX5.out⟩ ⟨_, HZ5.out⟩ ?_ ?_ HRT.out HAL.out
            · have hs : ∀ (S : Nat → Prop) (v : World) (p : Addr) (u : Value), S p.block → Only S w5 v → Only S w5 (v.setCell p u) := fun S v p u hp h => h.same (Only.setCell p u hp)
              refine hs _ _ _ _ (Or.inr (Or.inr rfl)) (hs _ _ _ _ (Or.inr (Or.inr rfl)) (hs _ _ _ _ (Or.inr (Or.inr rfl)) (hs _ _ _ _ (Or.inr (Or.inr rfl)) (hs _ _ _ _ (Or.inr (Or.inr rfl)) (hs _ _ _ _ (Or.inr (Or.inr rfl)) (hs _ _ _ _ (Or.inr (Or.inr rfl)) (hs _ _ _ _ (Or.inr (Or.inr rfl)) (hs _ _ _ _ (Or.inr (Or.inr rfl)) (hs _ _ _ _ (Or.inr (Or.inr rfl)) (hs _ _ _ _ (Or.inr (Or.inl rfl)) (hs _ _ _ _ (Or.inl rfl) (Only.refl _ _))))))))))))
            · have hR6 : (w5.setCell ⟨R, 0, none⟩ (.slice AL' (nl + 1) cL')).heap[R]? = some (.cells #[.slice AL' (nl + 1) cL'] 94 (0, 0)) := blk_put HG5.out 0 _ rfl
              have f : ∀ (v : World) (o : Nat) (u : Value), v.heap[R]? = some (.cells #[.slice AL' (nl + 1) cL'] 94 (0, 0)) → (v.setCell ⟨w.heap.size + 1, o, none⟩ u).heap[R]? = some (.cells #[.slice AL' (nl + 1) cL'] 94 (0, 0)) := fun v o u h => blk_far h (p := ⟨w.heap.size + 1, o, none⟩) hne2 u
              exact f _ _ _ (f _ _ _ (f _ _ _ (f _ _ _ (f _ _ _ (f _ _ _ (f _ _ _ (f _ _ _ (f _ _ _ (f _ _ _ (blk_far hR6 (p := ⟨w.heap.size, 9, none⟩) hne1 _))))))))))
end Go.Proofs.Ytgnifglolbfamaa

/- Room.whole: every list's marks are there. -/
set_option linter.unusedVariables false
set_option linter.unusedSimpArgs false
namespace Go.Proofs.Ytgnifglolbfamaa
open Go.RowKit Go.Proofs.YtgnifglolbfamaaW.PrintWords

set_option maxHeartbeats 4000000 in
set_option maxRecDepth 100000 in
theorem roomWhole_any (R : Nat) (ls : List Value) (vL : Value) (w : World) (h : RoomT w R ls vL) (hm : ∀ v ∈ ls, ∃ lo hi, MarkV lo hi w v) (hl : ls.length ≤ 100000000000) :
    Calls Try.prog 49 #[.pointer (some ⟨R, 0, none⟩)] w fun e w' => e = .returned (.bool true) ∧ w' = w := by
  obtain ⟨n, hn⟩ : ∃ n, n = ls.length := ⟨_, rfl⟩
  have hL := h.hL
  rw [← hn] at hL hl
  obtain ⟨AL, cL, rfl, h1, h2, hA, -⟩ := own_shape hL
  have HL := Lib.hid hL
  have HR := Lib.hid h.hR
  have HM := Lib.hid hm
  have HN := Lib.hid hn
  have HA := Lib.hid hA
  clear hL h hm hn hA
  have c0 := (blk_cell HR.out 0).trans rfl
  go_enter Try.func49, Try.ntmps49
  go_wp2_with fail
  go_loop [3] (fun t3 => ∃ i : Nat, i ≤ n ∧ t3 = .int .i64 i) (fun t3 => n - (intOf t3).toNat)
  case atStart => exact ⟨0, by omega, rfl⟩
  case round =>
    obtain ⟨i, hi, rfl⟩ := hrel
    by_cases hlt : i < n
    · have i1 : (0 : Int) ≤ (i : Int) := by omega
      have i2 : (i : Int) < n := by omega
      obtain ⟨gl, rfl⟩ := HA.out (by omega)
      have hie : i < ls.length := by have := HN.out; omega
      have cp : w.cell? ⟨gl, i, none⟩ = some ls[i] := by
        rw [HL.out.cellAt i (by omega), List.getElem?_eq_getElem hie]
      obtain ⟨lo, hi', g, m, c, cells, hv, _, _, hg, hmm, hk⟩ := HM.out _ (List.getElem_mem hie)
      rw [hv] at cp
      have HG := Lib.hid hg
      have HK := Lib.hid hk
      clear hv hg hk hie
      obtain ⟨m12, hm12⟩ : ∃ m12, m12 = m + 12 := ⟨_, rfl⟩
      rw [← hm12] at cp hmm
      have HM12 := Lib.hid hm12
      have hw1 : IntKind.i64.wrap ((m12 : Int) - 12) = (m : Int) := by rw [IntWalk.i64_in _ (by omega)]; omega
      have hmlt : m ≤ m12 := by omega
      clear hm12
      go_wp2_with fail
      go_loop [5] (fun t5 => ∃ p k : Nat, k ≤ 12 ∧ Hid (p = m + k) ∧ t5 = .int .i64 p) (fun t5 => m12 - (intOf t5).toNat)
      case atStart => exact ⟨m, 0, by omega, Lib.hid rfl, rfl⟩
      case round =>
        obtain ⟨p, k, hk, hp, rfl⟩ := hrel
        by_cases hkl : k < 12
        · have i3 : (0 : Int) ≤ (p : Int) := by omega
          have i4 : (p : Int) < m12 := by have := hp.out; have := HM12.out; omega
          have e0 : w.cell? ⟨g, p * 10, none⟩ = some (.int .i64 77) := by
            rw [blk_cell HG.out, hp.out]
            exact HK.out k hkl
          have hpl : p + 1 ≤ m12 := by have := hp.out; have := HM12.out; omega
          go_wp2_with fail
          go_round
          case rel => exact ⟨p + 1, k + 1, by omega, Lib.hid (by have := hp.out; omega), by go_num⟩
          case measure => simp [intOf]; omega
        · have hpe : p = m12 := by have := hp.out; have := HM12.out; omega
          subst hpe
          go_wp2_with fail
          go_round
          case rel => exact ⟨i + 1, by omega, by go_num⟩
          case measure => simp [intOf]; omega
    · obtain rfl : i = n := by omega
      go_wp2_with fail
      go_ret
      exact ⟨rfl, rfl⟩
end Go.Proofs.Ytgnifglolbfamaa

/- twin: a query over, with marks in spare room: the laws it wants. -/
set_option linter.unusedVariables false
set_option linter.unusedSimpArgs false
namespace Go.Proofs.Ytgnifglolbfamaa
open Go.RowKit Go.Proofs.YtgnifglolbfamaaW.PrintWords

section
variable {P : Program} {ops : Array Oper} {rest : List Oper} {o : Oper} {a : Act} {Q : Exit → Act → World → Prop}
/-- append(nil, xs...): a copy. -/
theorem app_copy {W : World} (H : Nat) (hH : W.heap.size = H) (hgd : o.guard = none) (s x : Operand) (t e : TypeId) (z : Value) (size bytes : Nat)
    (ho : o.op = .call { callee := .builtin .append, args := #[s, x], argTypes := #[t, t] })
    (ht : P.underlying t = some (.slice e)) (hinfo : (P.info? e).map (fun i => (i.zero, i.size, i.bytes)) = some (some z, size, bytes)) (hz : z.cells.size = size) (hs0 : 0 < size) (hb0 : 0 < bytes)
    (A : Option Addr) (n c : Nat) (news : List Value) (hln : news.length = n * size) (hnews : 0 < n → ∃ ad, A = some ad ∧ ∀ j u, news[j]? = some u → W.cell? (ad.add j) = some u) (h1 : ∀ u ∈ news, u.oneCell' = true)
    (hs : a.eval s = .slice none 0 0) (hx : a.eval x = .slice A n c) (hl : n * bytes ≤ 140737488355328) (hm : n ≤ maxLen)
    (h : ∀ A' cap' w1, Hid (w1.ownsRow H e size (.slice A' n cap') n news) → Hid (Below H W w1) → wpList P ops Q rest (a.put o.dst (.slice A' n cap')) w1) :
    wpList P ops Q (o :: rest) a W := by
  subst hH
  obtain ⟨i0, hi, hzz⟩ := Option.map_eq_some_iff.1 hinfo
  simp only [Prod.mk.injEq] at hzz
  obtain ⟨hz0, hz1, hz2⟩ := hzz
  rcases Nat.eq_zero_or_pos n with hn | hn
  · subst hn
    have hnil : news = [] := List.eq_nil_of_length_eq_zero (by omega)
    subst hnil
    refine wpList_plain hgd fun K hK => ?_
    have hrun : (Builtin.append_ #[t, t] o.type #[.slice none 0 0, .slice A 0 c]).run P W = .ok (.slice none 0 0) W := by
      cases A with
      | none => simp [Builtin.append_, run_underlying ht, sizeOf, typeInfo, hi, Builtin.lenOf, Builtin.firstCells]
      | some ad => simp [Builtin.append_, run_underlying ht, sizeOf, typeInfo, hi, Builtin.lenOf, Builtin.firstCells, loadCells, loadCellsFrom, Result.andThen]
    unfold Oper.wp execOp
    simp only [ho, resolve, invoke, builtin, Sem.run_bind, Sem.run_pure, Result.andThen_ok, List.map_toArray, List.map_cons, List.map_nil, hs, hx, hrun]
    exact hK _ _ (h none 0 W (Lib.hid (own_nil _ _ _ _)) (Lib.hid (Below.refl _ _)))
  · obtain ⟨ad, rfl, hc⟩ := hnews hn
    refine wpList_append_own_at W hgd s x t ho W.heap.size e i0 z size bytes ht hi hz0 hz1 hz2 hz hs0 (.slice none 0 0) 0 [] hs (own_nil _ _ _ _) ad n c news hx hln hc h1 (by rw [Nat.zero_add]; exact hm) (by rw [Nat.zero_add]; exact hl) (Nat.le_refl _) ?_
    intro v1 w1 hown hgr _ hat
    simp only [List.nil_append, Nat.zero_add] at hown
    obtain ⟨A', c', rfl⟩ := own_slice hown
    exact h A' c' w1 (Lib.hid hown) (Lib.hid ((Below.refl _ _).grown hgr (Nat.le_refl _) (fun k hk => by cases hk)))
end
end Go.Proofs.Ytgnifglolbfamaa

/- A region that draws, walked by hand: one operation after another in a fixed order, those that a guard passes over too. -/
set_option linter.unusedVariables false
namespace Go.Proofs.Ytgnifglolbfamaa
open Go

section
variable {P : Program} {md : Region.Mode} {l : List Oper} {Q : Exit → Act → World → Prop} {S : World → Prop} {fuel i : Nat} {oi : Oper} {rest : List Oper} {v : Value} {listed : Array Bool} {a : Act} {w : World}
theorem drop_at (hd : l.drop i = oi :: rest) : l.toArray[i]? = some oi := by
  have h : (l.drop i)[0]? = some oi := by rw [hd]; rfl
  rw [List.getElem?_drop] at h
  simpa using h
theorem takeL (hd : l.drop i = oi :: rest) (hs : Region.noSelect l.toArray = true) (hf : Region.free md l.toArray listed i = true) (hr : (Region.ready md l.toArray listed).contains i = true)
    (hQ : ∀ c a w, Q (.panic c) (a.put oi.dst v) w → Q (.panic c) a w) (hw : Region.wanted oi (yielded l.toArray a.tmps) = true) (hy : ∀ w, S w → (execOp a.eval oi).run P w = .ok (.value v) w) (hS : S w)
    (h : wpAnyH P md l.toArray Q S fuel (listed.setIfInBounds i true) (a.put oi.dst v) w) : wpAnyH P md l.toArray Q S (fuel + 1) listed a w :=
  wpAnyH_take (drop_at hd) hs hf hr hQ (Or.inl ⟨hw, hy⟩) hS h
theorem skipL (hd : l.drop i = oi :: rest) (hs : Region.noSelect l.toArray = true) (hf : Region.free md l.toArray listed i = true) (hr : (Region.ready md l.toArray listed).contains i = true)
    (hQ : ∀ c a w, Q (.panic c) (a.put oi.dst undef) w → Q (.panic c) a w) (hw : Region.wanted oi (yielded l.toArray a.tmps) = false) (hS : S w)
    (h : wpAnyH P md l.toArray Q S fuel (listed.setIfInBounds i true) (a.put oi.dst undef) w) : wpAnyH P md l.toArray Q S (fuel + 1) listed a w :=
  wpAnyH_take (drop_at hd) hs hf hr hQ (Or.inr ⟨hw, rfl⟩) hS h
theorem callL (hd : l.drop i = oi :: rest) (hr : Region.ready md l.toArray listed = [i])
    (h : ∀ K' : Act → World → Prop, Shut (∀ a w, S w → (S w → wpAnyH P md l.toArray Q S fuel (listed.setIfInBounds i true) a w) → K' a w) → if Region.wanted oi (yielded l.toArray a.tmps) = true then Oper.wp P oi a w K' Q else K' (a.put oi.dst undef) w) :
    wpAnyH P md l.toArray Q S (fuel + 1) listed a w :=
  wpAnyH_ready hr (by simp) (AllReadyH.cons (drop_at hd) h AllReadyH.nil)
end
end Go.Proofs.Ytgnifglolbfamaa
