/- Texts of the claim, merged in build order: QTE. -/
import Derived.Test.YtgnifglolbfamaaZAZ
import Derived.BigRegion
/- twin: its walk. -/
set_option linter.unusedVariables false
set_option linter.unusedSimpArgs false
namespace Go.Proofs.Ytgnifglolbfamaa
open Go.RowKit Go.Proofs.YtgnifglolbfamaaW.PrintWords

theorem cp_news {w : World} {A : Option Addr} {cs : List Cp} (h : kCp.C w A cs.length cs) : 0 < cs.length → ∃ ad, A = some ad ∧ ∀ j u, (cs.flatMap cellsCp)[j]? = some u → w.cell? (ad.add j) = some u := by
  intro hp
  obtain ⟨ad, rfl, hc⟩ := h.2.2 hp
  refine ⟨ad, rfl, fun j u hu => ?_⟩
  have hjl := (List.getElem?_eq_some_iff.1 hu).1
  rw [flat_len cellsCp 4 cs (fun _ _ => rfl)] at hjl
  have hk : j / 4 < cs.length := by omega
  obtain ⟨c, hl, hK, hcell⟩ := hc (j / 4) _ (List.getElem?_eq_getElem hk)
  have hce := kCp_open hK
  have hf := flat_at cellsCp 4 cs (fun _ _ => rfl) (j / 4) _ (List.getElem?_eq_getElem hk)
  have h1 := congrArg (fun z => z[j % 4]?) hf
  simp only [List.getElem?_take, if_pos (Nat.mod_lt j (show 4 > 0 by decide)), List.getElem?_drop] at h1
  rw [show j / 4 * 4 + j % 4 = j by omega, hu] at h1
  have h2 := hcell (j % 4) u (by rw [hce]; exact h1.symm)
  rw [show j / 4 * kCp.sz + j % 4 = j by show j / 4 * 4 + j % 4 = j; omega] at h2
  exact h2
theorem cp_one (cs : List Cp) : ∀ u ∈ cs.flatMap cellsCp, u.oneCell' = true := by
  intro u hu
  obtain ⟨x, _, hu⟩ := List.mem_flatMap.1 hu
  simp only [cellsCp, List.mem_cons, List.not_mem_nil, or_false] at hu
  rcases hu with rfl | rfl | rfl | rfl <;> rfl
theorem markCp_one : ∀ u ∈ markCp, u.oneCell' = true := by
  intro u hu
  simp only [markCp, List.mem_cons, List.not_mem_nil, or_false] at hu
  rcases hu with rfl | rfl | rfl | rfl <;> rfl
/-- What twin gives. -/
def TwinPost (cs : List Cp) (ws : List Ex) (q1 : ByteArray) (q2 : Int) (A3 : Option Addr) (n3 c3 : Nat) (q5 : Int) (q6 : ByteArray) (A7 : Option Addr) (n7 c7 : Nat) (w : World) (e : Ending) (w' : World) : Prop :=
  ∃ A5 c5 A6 c6 R ls vL, e = .returned (.agg #[.slice A5 cs.length (cs.length + 12), .string q1, .int .i64 q2, .slice A3 n3 c3, .slice A6 ws.length (ws.length + 12), .int .i64 q5, .string q6, .slice A7 n7 c7, .slice A5 (cs.length + 12) c5, .slice A6 (ws.length + 12) c6, .pointer (some ⟨R, 0, none⟩)]) ∧ Below w.heap.size w w' ∧ Twn w' cs ws A5 cs.length c5 A6 ws.length c6 R ls vL ∧ ls.length = exNL ws

theorem cutHM22 (g n m c : Nat) (h1 : n ≤ m) (h2 : m ≤ c) : ∀ W : World, (Instr.slice 22 (.slice (some ⟨g, 0, none⟩) m c) none (some (.int .i64 (n : Int))) (some (.int .i64 (m : Int)))).run Try.prog W = .ok (.slice (some ⟨g, 0, none⟩) n m) W := by
  intro W
  obtain ⟨i0, hi0, hzz⟩ := Option.map_eq_some_iff.1 infoCp
  have hel : Try.prog.elem 22 = 46 := by simp [Program.elem, Try.underlying22]
  have hu : Try.prog.underlying 22 = some (.slice (Try.prog.elem 22)) := by rw [hel]; exact Try.underlying22
  rw [run_slice_hm W 22 (some ⟨g, 0, none⟩) m c hu .i64 .i64 (n : Int) (m : Int) (by omega) (by omega) (by omega), hel]
  simp [sizeOf, typeInfo, hi0, sliced, Result.andThen, add_plain]
theorem blk_set11 {w : World} {g : Nat} {t : TypeId} {a0 a1 a2 a3 a4 a5 a6 a7 a8 a9 a10 : Value} (h : w.heap[g]? = some (.cells #[a0, a1, a2, a3, a4, a5, a6, a7, a8, a9, a10] t (0, 0))) (v0 v1 v2 v3 v4 v5 v6 v7 v8 v9 v10 : Value) : (((((((((((w.setCell ⟨g, 0, none⟩ v0).setCell ⟨g, 1, none⟩ v1).setCell ⟨g, 2, none⟩ v2).setCell ⟨g, 3, none⟩ v3).setCell ⟨g, 4, none⟩ v4).setCell ⟨g, 5, none⟩ v5).setCell ⟨g, 6, none⟩ v6).setCell ⟨g, 7, none⟩ v7).setCell ⟨g, 8, none⟩ v8).setCell ⟨g, 9, none⟩ v9).setCell ⟨g, 10, none⟩ v10).heap[g]? = some (.cells #[v0, v1, v2, v3, v4, v5, v6, v7, v8, v9, v10] t (0, 0)) :=
  blk_put (cs' := #[v0, v1, v2, v3, v4, v5, v6, v7, v8, v9, v10]) (blk_put (cs' := #[v0, v1, v2, v3, v4, v5, v6, v7, v8, v9, a10]) (blk_put (cs' := #[v0, v1, v2, v3, v4, v5, v6, v7, v8, a9, a10]) (blk_put (cs' := #[v0, v1, v2, v3, v4, v5, v6, v7, a8, a9, a10]) (blk_put (cs' := #[v0, v1, v2, v3, v4, v5, v6, a7, a8, a9, a10]) (blk_put (cs' := #[v0, v1, v2, v3, v4, v5, a6, a7, a8, a9, a10]) (blk_put (cs' := #[v0, v1, v2, v3, v4, a5, a6, a7, a8, a9, a10]) (blk_put (cs' := #[v0, v1, v2, v3, a4, a5, a6, a7, a8, a9, a10]) (blk_put (cs' := #[v0, v1, v2, a3, a4, a5, a6, a7, a8, a9, a10]) (blk_put (cs' := #[v0, v1, a2, a3, a4, a5, a6, a7, a8, a9, a10]) (blk_put (cs' := #[v0, a1, a2, a3, a4, a5, a6, a7, a8, a9, a10]) h 0 v0 rfl) 1 v1 rfl) 2 v2 rfl) 3 v3 rfl) 4 v4 rfl) 5 v5 rfl) 6 v6 rfl) 7 v7 rfl) 8 v8 rfl) 9 v9 rfl) 10 v10 rfl

theorem twin_close {w W1 w3 wF : World} {b4 R n m i m' c5 c6 g5 g6 : Nat} {cs : List Cp} {ws : List Ex} {q1 q6 : ByteArray} {q2 q5 : Int} {A3 A7 : Option Addr} {n3 c3 n7 c7 : Nat} {xs ls : List Value} {vL : Value}
    (hW1 : W1.heap.size = w.heap.size + 4) (hb : Below w.heap.size w W1) (hb4 : b4 = w.heap.size + 1 + 1 + 1) (hRe : R = w.heap.size + 1 + 1) (hn : n = cs.length) (hi : i = ws.length) (hm : m = n + 12) (hm' : m' = i + 12)
    (hOc : w3.ownsRow W1.heap.size 46 4 (.slice (some ⟨g5, 0, none⟩) m c5) m (cs.flatMap cellsCp ++ reps markCp 12)) (hO : w3.ownsRow W1.heap.size 31 10 (.slice (some ⟨g6, 0, none⟩) m' c6) m' (xs ++ reps (nodeC 78) 12)) (hKR : KidsR W1.heap.size w3 (.slice (some ⟨g6, 0, none⟩) m' c6) ws xs)
    (hR : RoomT w3 R ls vL) (hM : ∀ v ∈ ls, ∃ lo hi, MarkV lo hi w3 v) (hOn : Only (fun b => b = b4 ∨ b = R) W1 w3) (hF : Only (fun b => b = b4 ∨ b = w.heap.size + 1) w3 wF) (hS : ∀ b, (b = b4 ∨ b = w.heap.size + 1) → ∃ c, w3.heap[b]? = some (.cells c 50 (0, 0))) (hal : ls.length = exNL ws) :
    TwinPost cs ws q1 q2 A3 n3 c3 q5 q6 A7 n7 c7 w (.returned (.agg #[.slice (some ⟨g5, 0, none⟩) n m, .string q1, .int .i64 q2, .slice A3 n3 c3, .slice (some ⟨g6, 0, none⟩) i m', .int .i64 q5, .string q6, .slice A7 n7 c7, .slice (some ⟨g5, 0, none⟩) m c5, .slice (some ⟨g6, 0, none⟩) m' c6, .pointer (some ⟨R, 0, none⟩)])) wF := by
  subst hn hi hm hm'
  have h1 : Only (fun b => b = b4 ∨ b = R ∨ b = w.heap.size + 1) W1 wF := (hOn.mono (fun b _ h => by rcases h with h | h <;> simp [h])).trans hF (fun b _ h => by rcases h with h | h <;> simp [h])
  exact ⟨_, c5, _, c6, R, ls, vL, rfl, hb.trans (h1.below (by omega) (fun b hb hs => by rcases hs with h | h | h <;> omega)), twn_of rfl rfl hOc hO hKR hR hM hF hS, hal⟩
/-- The query's cells. -/
def qCells (A : Option Addr) (n c : Nat) (q1 : ByteArray) (q2 : Int) (A3 : Option Addr) (n3 c3 : Nat) (AW : Option Addr) (m cw : Nat) (q5 : Int) (q6 : ByteArray) (A7 : Option Addr) (n7 c7 : Nat) : List Value := [.slice A n c, .string q1, .int .i64 q2, .slice A3 n3 c3, .slice AW m cw, .int .i64 q5, .string q6, .slice A7 n7 c7]

set_option maxHeartbeats 8000000 in
set_option maxRecDepth 100000 in
theorem twin_any (cs : List Cp) (A : Option Addr) (c : Nat) (q1 : ByteArray) (q2 : Int) (A3 : Option Addr) (n3 c3 : Nat) (ws : List Ex) (AW : Option Addr) (cw : Nat) (q5 : Int) (q6 : ByteArray) (A7 : Option Addr) (n7 c7 : Nat) (w : World) (hC : kCp.C w A cs.length cs) (hW : kEx.C w AW ws.length ws) (hcb : cs.length * 40 ≤ 140737488351232) (hc : cs.length ≤ c) (hcw : ws.length ≤ cw) (hwN : exNL ws ≤ 10000000) :
    Calls Try.prog 16 #[.agg #[.slice A cs.length c, .string q1, .int .i64 q2, .slice A3 n3 c3, .slice AW ws.length cw, .int .i64 q5, .string q6, .slice A7 n7 c7]] w (TwinPost cs ws q1 q2 A3 n3 c3 q5 q6 A7 n7 c7 w) := by
  have hmx := hC.2.1
  have hmw := hW.2.1
  obtain ⟨o1, ho1⟩ : ∃ o1, o1 = Obj.cells #[.slice A cs.length c, .string q1, .int .i64 q2, .slice A3 n3 c3, .slice AW ws.length cw, .int .i64 q5, .string q6, .slice A7 n7 c7] 27 := ⟨_, rfl⟩
  obtain ⟨o2, ho2⟩ : ∃ o2, o2 = Obj.cells #[.slice none 0 0, .string ⟨#[]⟩, .int .i64 0, .slice none 0 0, .slice none 0 0, .int .i64 0, .string ⟨#[]⟩, .slice none 0 0, .slice none 0 0, .slice none 0 0, .pointer none] 50 := ⟨_, rfl⟩
  obtain ⟨o3, ho3⟩ : ∃ o3, o3 = Obj.cells #[.slice none 0 0] 94 := ⟨_, rfl⟩
  obtain ⟨o4, ho4⟩ : ∃ o4, o4 = Obj.cells #[.slice A cs.length c, .string q1, .int .i64 q2, .slice A3 n3 c3, .slice AW ws.length cw, .int .i64 q5, .string q6, .slice A7 n7 c7, .slice none 0 0, .slice none 0 0, .pointer (some ⟨w.heap.size + 1 + 1, 0, none⟩)] 50 := ⟨_, rfl⟩
  have hb1 := below_new w o1
  have hb2 := below_new (w.alloc o1) o2
  have hb3 := below_new ((w.alloc o1).alloc o2) o3
  have hb4 := below_new (((w.alloc o1).alloc o2).alloc o3) o4
  have h1 := blk_below (blk_below (blk_below (blk_new w o1) hb2) hb3) hb4
  have h2 := blk_below (blk_below (blk_new (w.alloc o1) o2) hb3) hb4
  have h3 := blk_below (blk_new ((w.alloc o1).alloc o2) o3) hb4
  have h4 := blk_new (((w.alloc o1).alloc o2).alloc o3) o4
  simp only [alloc_size'] at h2 h3 h4
  have HB := Lib.hid (below_step (below_step (below_step hb1 hb2) hb3) hb4)
  have HS := Lib.hid (show ((((w.alloc o1).alloc o2).alloc o3).alloc o4).heap.size = w.heap.size + 4 by simp only [alloc_size'])
  have HC := Lib.hid (Kd.C_below hC HB.out)
  have HW := Lib.hid (Kd.C_below hW HB.out)
  have HW0 := Lib.hid hW
  clear hb1 hb2 hb3 hb4 hC hW
  obtain ⟨b4, hb4⟩ : ∃ b4, b4 = w.heap.size + 1 + 1 + 1 := ⟨_, rfl⟩
  go_enter Try.func16, Try.ntmps16
  have h1 := h1.trans (congrArg some ho1)
  have h2 := h2.trans (congrArg some ho2)
  have h3 := h3.trans (congrArg some ho3)
  have h4 := h4.trans (congrArg some ho4)
  have HE1 := Lib.hid ho1
  have HE2 := Lib.hid ho2
  have HE3 := Lib.hid ho3
  have HE4 := Lib.hid ho4
  have H1 := Lib.hid h1
  have H2 := Lib.hid h2
  have H3 := Lib.hid h3
  have H4 := Lib.hid h4
  clear ho1 ho2 ho3 ho4 h1 h2 h3 h4
  have hl0 : cs.length * 40 ≤ 140737488355328 := by omega
  go_wp2_with (at_builtin; go_must (rw [← HE1.out, ← HE2.out, ← HE3.out, ← HE4.out]; refine app_copy (W := (((w.alloc o1).alloc o2).alloc o3).alloc o4) (w.heap.size + 4) HS.out (by rfl) _ _ 22 46 _ 4 40 (by rfl) Try.underlying22 infoCp (by rfl) (by decide) (by decide) A cs.length c (cs.flatMap cellsCp) (flat_len cellsCp 4 cs (fun _ _ => rfl)) (cp_news HC.out) (cp_one cs) (by rfl) (by rfl) hl0 (by simp only [maxLen]; omega) ?_))
  intro A5 c5 w1 hO5 hB5
  generalize (((w.alloc o1).alloc o2).alloc o3).alloc o4 = W1 at *
  have hB5' : Below W1.heap.size W1 w1 := by rw [HS.out]; exact hB5.out
  have HON := Lib.hid (Only.of_below (S := fun b => b = b4) hB5')
  have HO5 := Lib.hid (show w1.ownsRow W1.heap.size 46 4 (.slice A5 cs.length c5) cs.length (cs.flatMap cellsCp) by rw [HS.out]; exact hO5.out)
  have H5 := Lib.hid (blk_below H4.out hB5')
  have HB4 := Lib.hid hb4
  obtain ⟨n, hn⟩ : ∃ n, n = cs.length := ⟨_, rfl⟩
  have x8 := (blk_cell H5.out 8).trans rfl
  have z8 := blk_frozen H5.out 8
  rw [← hn] at x8 HO5 H5 hmx hcb hc hl0 ⊢
  rw [← hb4] at x8 z8 H5 ⊢
  have HN := Lib.hid hn
  clear hn hb4 hB5' hO5 hB5
  go_wp2_with fail
  have HX6 := Lib.hid (blk_put (cs' := #[.slice A n c, .string q1, .int .i64 q2, .slice A3 n3 c3, .slice AW ws.length cw, .int .i64 q5, .string q6, .slice A7 n7 c7, .slice A5 n c5, .slice none 0 0, .pointer (some ⟨w.heap.size + 1 + 1, 0, none⟩)]) H5.out 8 (.slice A5 n c5) rfl)
  have HO6 := Lib.hid ((Only.setCell (S := fun b => b = b4) (w := w1) ⟨b4, 8, none⟩ (.slice A5 n c5) rfl).own HO5.out (fun b hb hs => by
    obtain ⟨c', hc'⟩ := own_typed HO5.out b hb
    subst hs
    exact two_types31 hc' H5.out (by decide)))
  have HON6 := Lib.hid (HON.out.same (Only.setCell (S := fun b => b = b4) (w := w1) ⟨b4, 8, none⟩ (.slice A5 n c5) rfl))
  clear x8 z8 HO5 H5 HON
  go_loopw [4] (fun t4 wr => ∃ (k m : Nat) (A5 : Option Addr) (c5 : Nat), k ≤ 12 ∧ t4 = .int .i64 k ∧ Hid (m = n + k) ∧ Hid (wr.heap[b4]? = some (.cells #[.slice A n c, .string q1, .int .i64 q2, .slice A3 n3 c3, .slice AW ws.length cw, .int .i64 q5, .string q6, .slice A7 n7 c7, .slice A5 m c5, .slice none 0 0, .pointer (some ⟨w.heap.size + 1 + 1, 0, none⟩)] 50 (0, 0))) ∧ Hid (wr.ownsRow W1.heap.size 46 4 (.slice A5 m c5) m (cs.flatMap cellsCp ++ reps markCp k)) ∧ Hid (Only (fun b => b = b4) W1 wr)) (fun t4 _ => 12 - (intOf t4).toNat)
  case atStart => exact ⟨0, n, A5, c5, by omega, rfl, Lib.hid rfl, HX6, Lib.hid (by rw [reps_zero, List.append_nil]; exact HO6.out), HON6⟩
  case round =>
    clear HX6 HO6 HON6
    obtain ⟨k, m, A5, c5, hk, rfl, hm, hX, hO, hOn⟩ := hrel
    generalize wr = w2 at *
    have hsz := hOn.out.size
    have x8 := (blk_cell hX.out 8).trans rfl
    by_cases hlt : k < 12
    · have hle : (m + 1) * 40 ≤ 140737488355328 := by have := hm.out; omega
      go_wp2_with (at_builtin; go_must (refine app_cellsB (W := w2) W1.heap.size w2.heap.size (by rfl) hsz (by rfl) _ _ 22 46 _ 4 40 (by rfl) Try.underlying22 infoCp (by rfl) (by decide) (by decide) A5 m c5 _ markCp hO.out (by rfl) markCp_one (by rfl) (by rfl) hle ?_))
      intro A6 c6 w5 hO5 hOn5 hB5
      have H5 := Lib.hid (hOn5.out.blk hX.out (fun hs => by
        obtain ⟨c', hc'⟩ := own_typed hO.out b4 hs
        exact two_types31 hc' hX.out (by decide)))
      clear x8
      have x8 := (blk_cell H5.out 8).trans rfl
      have z8 := blk_frozen H5.out 8
      have hob := Lib.hid (fun b hb => own_base hO.out b hb)
      go_wp2_with fail
      have HX6 := Lib.hid (blk_put (cs' := #[.slice A n c, .string q1, .int .i64 q2, .slice A3 n3 c3, .slice AW ws.length cw, .int .i64 q5, .string q6, .slice A7 n7 c7, .slice A6 (m + 1) c6, .slice none 0 0, .pointer (some ⟨w.heap.size + 1 + 1, 0, none⟩)]) H5.out 8 (.slice A6 (m + 1) c6) rfl)
      have HO6 := Lib.hid ((Only.setCell (S := fun b => b = b4) (w := w5) ⟨b4, 8, none⟩ (.slice A6 (m + 1) c6) rfl).own hO5.out (fun b hb hs => by
        obtain ⟨c', hc'⟩ := own_typed hO5.out b hb
        subst hs
        exact two_types31 hc' H5.out (by decide)))
      have HON6 := Lib.hid ((hOn.out.trans hOn5.out (fun b hb hs => by have := hob.out b hs; omega)).same (Only.setCell (S := fun b => b = b4) (w := w5) ⟨b4, 8, none⟩ (.slice A6 (m + 1) c6) rfl))
      go_roundw
      case rel => exact ⟨k + 1, m + 1, A6, c6, by omega, by go_num, Lib.hid (by have := hm.out; omega), HX6, Lib.hid (by rw [reps_succ]; exact HO6.out), HON6⟩
      case measure => simp [intOf]; omega
    · obtain rfl : k = 12 := by omega
      obtain ⟨R, hRe⟩ : ∃ R, R = w.heap.size + 1 + 1 := ⟨_, rfl⟩
      rw [← hRe] at hX x8 ⊢
      have HRE := Lib.hid hRe
      have HHX := hX
      have HHO := hO
      have HHON := hOn
      have hwl : ws.length ≤ 10000000 := by have := exNL_len ws; omega
      have HR0 : Hid (RoomT w2 R [] (.slice none 0 0)) := Lib.hid ⟨hOn.out.blk (by rw [hRe]; exact H3.out) (by have := HB4.out; show ¬ R = b4; omega), own_nil _ _ _ _⟩
      have HM := hm
      obtain ⟨mw, hmwe⟩ : ∃ mw, mw = ws.length := ⟨_, rfl⟩
      have HMW := Lib.hid hmwe
      have H1b := Lib.hid (hOn.out.blk H1.out (by have := HB4.out; show ¬ w.heap.size = b4; omega))
      rw [← hmwe] at hwl hcw hmw HHX H1b ⊢
      clear hRe hX hO hOn hsz x8 hmwe hm
      go_wp2_with fail
      go_loopw [5] (fun t5 wr => ∃ (i : Nat) (A6 : Option Addr) (c6 : Nat) (xs : List Value) (added : List Value) (vL : Value), i ≤ mw ∧ t5 = .int .i64 i ∧ Hid (wr.heap[b4]? = some (.cells #[.slice A n c, .string q1, .int .i64 q2, .slice A3 n3 c3, .slice AW mw cw, .int .i64 q5, .string q6, .slice A7 n7 c7, .slice A5 m c5, .slice A6 i c6, .pointer (some ⟨R, 0, none⟩)] 50 (0, 0))) ∧
        Hid (wr.ownsRow W1.heap.size 31 10 (.slice A6 i c6) i xs) ∧ Hid (KidsR W1.heap.size wr (.slice A6 i c6) (ws.take i) xs) ∧ Hid (RoomT wr R added vL) ∧ Hid (∀ b, vL.ownBlock = some b → W1.heap.size ≤ b) ∧
        Hid (∀ v ∈ added, ∃ lo hi, W1.heap.size ≤ lo ∧ hi ≤ wr.heap.size ∧ MarkV lo hi wr v ∧ ∀ b, (Value.slice A6 i c6).ownBlock = some b → b < lo ∨ hi ≤ b) ∧ Hid (added.length = exNL (ws.take i)) ∧
        Hid (wr.ownsRow W1.heap.size 46 4 (.slice A5 m c5) m (cs.flatMap cellsCp ++ reps markCp 12)) ∧ Hid (Only (fun b => b = b4 ∨ b = R) W1 wr)) (fun t5 _ => mw - (intOf t5).toNat)
      case atStart => exact ⟨0, none, 0, [], [], .slice none 0 0, by omega, rfl, HHX, Lib.hid (own_nil _ _ _ _), Lib.hid (fun w'' _ => by rw [List.take_zero]; exact Reps.none _ _), HR0, Lib.hid (fun b hb => by simp [Value.ownBlock] at hb), Lib.hid (fun v hv => by cases hv), Lib.hid (by rw [List.take_zero]; rfl), HHO, Lib.hid (HHON.out.mono (fun b _ h => Or.inl h))⟩
      case round =>
        clear HHX HHO HHON HR0 H1b
        obtain ⟨i, A6, c6, xs, added, vL, hi, rfl, hX, hO, hKR, hRk, hvk, hMk, hAl, hOc, hOn⟩ := hrel
        generalize wr = w3 at *
        have hsz := hOn.out.size
        have H1c := Lib.hid (hOn.out.blk H1.out (by have := HB4.out; have := HRE.out; show ¬ (w.heap.size = b4 ∨ w.heap.size = R); omega))
        rw [← HMW.out] at H1c
        have y4 := (blk_cell H1c.out 4).trans rfl
        have x10 := (blk_cell hX.out 10).trans rfl
        have x9 := (blk_cell hX.out 9).trans rfl
        have hbW : Below w.heap.size w w3 := HB.out.trans (hOn.out.below (by have := HS.out; omega) (fun b hb hs => by have := HB4.out; have := HRE.out; rcases hs with h | h <;> omega))
        have HBW := Lib.hid hbW
        clear hbW
        by_cases hlt : i < mw
        · have hlt' : i < ws.length := by have := HMW.out; omega
          have hat := atEx HW0.out i (by omega) (by have := HMW.out; omega)
          simp only [Int.toNat_natCast] at hat
          obtain ⟨ad, B9, b9, rfl, e0, e1, e2, e3, e4, e5, e6, e7, e8, e9, hl9, hi9⟩ := hat
          have HE0 := Lib.hid e0
          have e0 := pw_cell_below HBW.out e0
          have e1 := pw_cell_below HBW.out e1
          have e2 := pw_cell_below HBW.out e2
          have e3 := pw_cell_below HBW.out e3
          have e4 := pw_cell_below HBW.out e4
          have e5 := pw_cell_below HBW.out e5
          have e6 := pw_cell_below HBW.out e6
          have e7 := pw_cell_below HBW.out e7
          have e8 := pw_cell_below HBW.out e8
          have e9 := pw_cell_below HBW.out e9
          have HR := Lib.hid (rdEx_get ws i hlt')
          generalize rdEx ws i = y at *
          have HT := Lib.hid (show ws.take (i + 1) = ws.take i ++ [y] by rw [List.take_succ_eq_append_getElem hlt', HR.out])
          have HTN := Lib.hid (show exNL (ws.take (i + 1)) = exNL (ws.take i) + exN y by rw [exNL_take_succ ws i hlt', HR.out])
          have HTL := Lib.hid (exNL_take ws (i + 1))
          have HYN := Lib.hid (show exN y ≤ exNL ws by rw [HR.out]; exact exN_get _ _ hlt')
          have HL9 := Lib.hid hl9
          have HI9 := Lib.hid hi9
          clear hl9 hi9 HR hlt'
          have i1 : (0 : Int) ≤ (i : Int) := by omega
          have i2 : (i : Int) < (mw : Int) := by omega
          have HTW := Lib.hid (show ∀ w', Below w3.heap.size w3 w' → Calls Try.prog 41 #[.pointer (some ⟨R, 0, none⟩), exV y (.slice B9 y.f6.length b9)] w' (TwPost R added vL y w') from fun w' hb => twinX_any w _ y B9 b9 w' R added vL (Nat.le_refl _) (by have h1 := HYN.out; have h2 := hAl.out; have h3 := HTN.out; have h4 := HTL.out; omega) HL9.out HI9.out (HBW.out.trans (hb.mono HBW.out.size)) (hRk.out.only (S := fun _ => False) (Only.of_below hb) (fun _ _ h => h)) (fun b hb => by
            rcases hb with hb | hb
            · have := HRE.out; omega
            · have := hvk.out b hb; have := HS.out; omega))
          unfold exV at HTW
          have hlow : ∀ w', Only (RS R vL) w3 w' → Below w.heap.size w3 w' := fun w' ho => ho.below HBW.out.size (fun b hb hs => by
              rcases hs with h | h
              · have := HRE.out; omega
              · have := hvk.out b h; have := HS.out; omega)
          have hkl : ∀ (w' : World) (a : Addr) (v : Value), Only (RS R vL) w3 w' → a.block < w.heap.size → w3.cell? a = some v → w'.cell? a = some v := fun w' a v ho hl hc => ((hlow w' ho).cell hl).trans hc
          have hab : (ad.add (i * 10)).block < w.heap.size := World.block_lt_of_cell? w _ HE0.out
          have hB4R : ∀ b, b = b4 → ¬ RS R vL b := fun b e hs => by
              subst e
              rcases hs with h | h
              · have := HB4.out; have := HRE.out; omega
              · have := hvk.out b h; have := HB4.out; have := HS.out; omega
          have HB4R := Lib.hid hB4R
          have HKeep := Lib.hid (show ∀ w', Only (RS R vL) w3 w' → w'.cell? ⟨b4, 10, none⟩ = some (.pointer (some ⟨R, 0, none⟩)) ∧ w'.cell? ⟨w.heap.size, 4, none⟩ = some (.slice (some ad) mw cw) ∧ w'.cell? (ad.add (i * 10)) = some (.int .i64 y.f0) ∧ w'.cell? ⟨(ad.add (i * 10)).block, (ad.add (i * 10)).off + 1, none⟩ = some (.int .i64 y.f1) ∧ w'.cell? ⟨(ad.add (i * 10)).block, (ad.add (i * 10)).off + 2, none⟩ = some (.int .i64 y.f2.f0) ∧ w'.cell? ⟨(ad.add (i * 10)).block, (ad.add (i * 10)).off + 3, none⟩ = some (.int .i64 y.f2.f1) ∧ w'.cell? ⟨(ad.add (i * 10)).block, (ad.add (i * 10)).off + 4, none⟩ = some (.string y.f2.f2) ∧ w'.cell? ⟨(ad.add (i * 10)).block, (ad.add (i * 10)).off + 5, none⟩ = some (.bool y.f2.f3) ∧ w'.cell? ⟨(ad.add (i * 10)).block, (ad.add (i * 10)).off + 6, none⟩ = some (.string y.f3) ∧ w'.cell? ⟨(ad.add (i * 10)).block, (ad.add (i * 10)).off + 7, none⟩ = some (.int .i64 y.f4) ∧ w'.cell? ⟨(ad.add (i * 10)).block, (ad.add (i * 10)).off + 8, none⟩ = some (.string y.f5) ∧ w'.cell? ⟨(ad.add (i * 10)).block, (ad.add (i * 10)).off + 9, none⟩ = some (.slice B9 y.f6.length b9) from fun w' ho => ⟨(blk_cell (ho.blk hX.out (hB4R b4 rfl)) 10).trans rfl, (blk_cell (ho.blk H1c.out (fun hs => by
              rcases hs with h | h
              · have := HRE.out; omega
              · have := hvk.out _ h; have := HS.out; omega)) 4).trans rfl, hkl w' _ _ ho hab e0, hkl w' _ _ ho hab e1, hkl w' _ _ ho hab e2, hkl w' _ _ ho hab e3, hkl w' _ _ ho hab e4, hkl w' _ _ ho hab e5, hkl w' _ _ ho hab e6, hkl w' _ _ ho hab e7, hkl w' _ _ ho hab e8, hkl w' _ _ ho hab e9⟩)
          have HNS := Lib.hid (show ¬ RS R vL w3.heap.size from fun hs => by
              rcases hs with h | h
              · have := HRE.out; have := HS.out; omega
              · have := own_lt hRk.out.hL _ h; omega)
          clear hlow hkl hab hB4R e0 e1 e2 e3 e4 e5 e6 e7 e8 e9 x9 x10
          go_upto_region 10 with fail
          refine reg10_any _ _ _ _ _ _ _ _ _ _ _ _ _ _ _ _ _ _ _ _ _ _ _ _ _ _ _ _ _ _ _ _ _ _ _ _ _ _ _ _ _ _ _ _ _ _ _ _ _ _ _ _ _ _ _ _ _ _ _ _ _ _ _ _ _ _ _ _ _ _ _ _ _ _ _ _ _ w.heap.size b4 i mw cw R ad y B9 b9 added vL w3 i1 i2 hRk HTW HNS HKeep _ ?_
          refine Lib.hid (fun v33 v34 v35 v36 v37 v38 v39 v40 g W4 hr10 => ?_)
          clear HTW HNS HKeep HE0
          obtain ⟨g', A', added', vL', hg', hgc, hR4, hv4, hs4, hrd4, hm4, hOn4, hal4⟩ := hr10
          injection hg' with hg'
          injection hg' with hg'
          injection hg' with hg'
          subst hg'
          have HX4 := Lib.hid (hOn4.blk hX.out (HB4R.out b4 rfl))
          have hgc : W4.heap[g]? = some (.cells #[.int .i64 y.f0, .int .i64 y.f1, .int .i64 y.f2.f0, .int .i64 y.f2.f1, .string y.f2.f2, .bool y.f2.f3, .string y.f3, .int .i64 y.f4, .string y.f5, .slice A' y.f6.length (y.f6.length + 12)] 31 (0, 0)) := hgc
          have HR4 := Lib.hid hR4
          have HV4 := Lib.hid hv4
          have HRD4 := Lib.hid hrd4
          have HM4 := Lib.hid hm4
          have HON4 := Lib.hid hOn4
          have HAL4 := Lib.hid hal4
          have HO4 := Lib.hid (hOn4.own hO.out (fun b hb hs => by
            obtain ⟨c', hc'⟩ := own_typed hO.out b hb
            exact hRk.out.not31 b hs ⟨c', hc'⟩))
          have x9 := (blk_cell HX4.out 9).trans rfl
          have q0 := (blk_cell hgc 0).trans rfl
          have q1' := (blk_cell hgc 1).trans rfl
          have q2' := (blk_cell hgc 2).trans rfl
          have q3' := (blk_cell hgc 3).trans rfl
          have q4' := (blk_cell hgc 4).trans rfl
          have q5' := (blk_cell hgc 5).trans rfl
          have q6' := (blk_cell hgc 6).trans rfl
          have q7' := (blk_cell hgc 7).trans rfl
          have q8' := (blk_cell hgc 8).trans rfl
          have q9' := (blk_cell hgc 9).trans rfl
          have hle : (i + 1) * 120 ≤ 140737488355328 := by omega
          have hsz4 : W1.heap.size ≤ W4.heap.size := by omega
          clear hgc hR4 hv4 hrd4 hm4 hOn4 hal4
          go_wp2_with (at_builtin; go_must (refine app_cellsB (W := W4) W1.heap.size W4.heap.size (by rfl) hsz4 (by rfl) _ _ 24 31 _ 10 120 (by rfl) Try.underlying24 infoEx (by rfl) (by decide) (by decide) A6 i c6 xs (exCellsT y (.slice A' y.f6.length (y.f6.length + 12))) HO4.out (by rfl) (exCellsT_one y _ rfl) (by rfl) (by rfl) hle ?_))
          intro A6' c6' w5 hO5 hOn5 hB5
          have H5 := Lib.hid (hOn5.out.blk HX4.out (fun hs => by
            obtain ⟨c', hc'⟩ := own_typed HO4.out b4 hs
            exact two_types31 hc' HX4.out (by decide)))
          clear x9 q0 q1' q2' q3' q4' q5' q6' q7' q8' q9'
          have x9 := (blk_cell H5.out 9).trans rfl
          have z9 := blk_frozen H5.out 9
          have hob := Lib.hid (fun b hb => own_base hO.out b hb)
          have hol := Lib.hid (fun b hb => own_lt hO.out b hb)
          go_wp2_with fail
          have HON6 := Lib.hid (Only.setCell (S := fun b => b = b4) (w := w5) ⟨b4, 9, none⟩ (.slice A6' (i + 1) c6') rfl)
          have HX6 := Lib.hid (blk_put (cs' := #[.slice A n c, .string q1, .int .i64 q2, .slice A3 n3 c3, .slice (some ad) mw cw, .int .i64 q5, .string q6, .slice A7 n7 c7, .slice A5 m c5, .slice A6' (i + 1) c6', .pointer (some ⟨R, 0, none⟩)]) H5.out 9 (.slice A6' (i + 1) c6') rfl)
          generalize w5.setCell ⟨b4, 9, none⟩ (.slice A6' (i + 1) c6') = w6 at *
          have s5 := hOn5.out.size
          have s6 := HON6.out.size
          have H31 := Lib.hid (hRk.out.keep31 HON4.out)
          have hst := Lib.hid (show ∀ b, b < W4.heap.size → (Value.slice A6 i c6).ownBlock ≠ some b → (∃ c, W4.heap[b]? = some (.cells c 31 (0, 0))) → w6.heap[b]? = W4.heap[b]? from fun b h1 h2 h3 => by
            obtain ⟨c', hc'⟩ := h3
            refine (HON6.out.block b (by omega) (fun e => ?_)).trans (hOn5.out.block b h1 (fun h => h2 h))
            subst e
            exact two_types31 hc' HX4.out (by decide))
          have hb4l := Lib.hid (show b4 < W1.heap.size by have := HB4.out; have := HS.out; omega)
          have hne4 := Lib.hid (show ∀ b, W1.heap.size ≤ b → ¬ b = b4 from fun b h e => by have := hb4l.out; omega)
          have HO6 := Lib.hid (HON6.out.own hO5.out (fun b hb hs => hne4.out b (own_base hO5.out b hb) hs))
          have HKR6 := Lib.hid (show KidsR W1.heap.size w6 (.slice A6' (i + 1) c6') (ws.take (i + 1)) (xs ++ exCellsT y (.slice A' y.f6.length (y.f6.length + 12))) by
            rw [HT.out]
            refine KidsR.snoc (w2 := W4) hKR.out (lo2 := w3.heap.size) hsz (Nat.le_refl _) (by omega) HON4.out.size (fun b h1 h2 h3 => ?_) (fun b h1 h2 => ?_) hB5.out hol.out HRD4.out (by omega)
            · have e4 := H31.out b h3
              obtain ⟨c', hc'⟩ := h3
              exact (hst.out b (by have := HON4.out.size; omega) h2 ⟨c', e4.trans hc'⟩).trans e4
            · exact (HON6.out.block b (by omega) (hne4.out b (by omega))).trans (hOn5.out.block b h2 (fun h => by have := hol.out b h; omega)))
          have HR6 := Lib.hid (show RoomT w6 R (added ++ added') vL' from (HR4.out.only hOn5.out (fun b hb hs => HR4.out.not31 b hb (own_typed HO4.out b hs))).only HON6.out (fun b hb hs => by
            subst hs
            rcases hb with hb | hb
            · have := HRE.out; have := HB4.out; omega
            · obtain ⟨c', hc'⟩ := own_typed HR4.out.hL _ hb
              exact two_types31 hc' HX4.out (by decide)))
          have HV6 := Lib.hid (show ∀ b, vL'.ownBlock = some b → W1.heap.size ≤ b from fun b hb => by
            rcases HV4.out b hb with h | h
            · exact hvk.out b h
            · omega)
          have HM6 := Lib.hid (show ∀ v ∈ added ++ added', ∃ lo hi, W1.heap.size ≤ lo ∧ hi ≤ w6.heap.size ∧ MarkV lo hi w6 v ∧ ∀ b, (Value.slice A6' (i + 1) c6').ownBlock = some b → b < lo ∨ hi ≤ b by
            intro v hv
            have s4 := HON4.out.size
            rcases List.mem_append.1 hv with hv | hv
            · obtain ⟨lo, hi, h1, h2, h3, h4⟩ := hMk.out v hv
              refine ⟨lo, hi, h1, by omega, h3.move (fun b b1 b2 _ b4 => ?_), fun b hb => ?_⟩
              · have e4 := H31.out b b4
                obtain ⟨c', hc'⟩ := b4
                exact (hst.out b (by omega) (fun hb => by have := h4 b hb; omega) ⟨c', e4.trans hc'⟩).trans e4
              · rcases hB5.out b hb with h5 | h5
                · exact h4 b h5
                · exact Or.inr (by omega)
            · refine ⟨w3.heap.size, W4.heap.size, hsz, by omega, (HM4.out v hv).move (fun b b1 b2 _ b4 => hst.out b b2 (fun hb => by have := hol.out b hb; omega) b4), fun b hb => ?_⟩
              rcases hB5.out b hb with h5 | h5
              · exact Or.inl (hol.out b h5)
              · exact Or.inr h5)
          have HAL6 := Lib.hid (show (added ++ added').length = exNL (ws.take (i + 1)) by rw [List.length_append, hAl.out, HAL4.out, HTN.out])
          have HOC6 := Lib.hid (show w6.ownsRow W1.heap.size 46 4 (.slice A5 m c5) m (cs.flatMap cellsCp ++ reps markCp 12) from HON6.out.own (hOn5.out.own (HON4.out.own hOc.out (fun b hb hs => by
            obtain ⟨c', hc'⟩ := own_typed hOc.out b hb
            rcases hs with rfl | hs
            · exact two_types31 hc' hRk.out.hR (by decide)
            · obtain ⟨c2, hc2⟩ := own_typed hRk.out.hL b hs
              exact two_types31 hc' hc2 (by decide))) (fun b hb hs => by
            have hoc4 := HON4.out.own hOc.out (fun b hb hs => by
              obtain ⟨c', hc'⟩ := own_typed hOc.out b hb
              rcases hs with rfl | hs
              · exact two_types31 hc' hRk.out.hR (by decide)
              · obtain ⟨c2, hc2⟩ := own_typed hRk.out.hL b hs
                exact two_types31 hc' hc2 (by decide))
            obtain ⟨c', hc'⟩ := own_typed hoc4 b hb
            obtain ⟨c2, hc2⟩ := own_typed HO4.out b hs
            exact two_types31 hc' hc2 (by decide))) (fun b hb hs => hne4.out b (own_base hOc.out b hb) hs))
          have HOnn := Lib.hid (show Only (fun b => b = b4 ∨ b = R) W1 w6 from (((hOn.out.trans HON4.out (fun b hb hs => by
            rcases hs with h | h
            · exact Or.inr h
            · have := hvk.out b h; omega)).trans hOn5.out (fun b hb hs => by have := hob.out b hs; omega)).trans HON6.out (fun b _ hs => Or.inl hs)))
          clear HON4 HON6 H5 x9 z9 H31 hst hne4 hb4l HX4
          go_wp2_with fail
          go_roundw
          case rel =>
            refine ⟨_, _, _, _, _, _, _, _, _, _, _, _, _, _, _, _, _, _, _, _, _, _, _, ?_, rfl⟩
            exact ⟨i + 1, A6', c6', xs ++ exCellsT y (.slice A' y.f6.length (y.f6.length + 12)), added ++ added', vL', by omega, by go_num, HX6, HO6, HKR6, HR6, HV6, HM6, HAL6, HOC6, HOnn⟩
          case measure => simp [intOf]; omega
        · obtain rfl : i = mw := by omega
          have htk : ws.take i = ws := List.take_of_length_le (by have := HMW.out; omega)
          have hKR' := hKR.out
          have hAl' := hAl.out
          rw [htk] at hKR' hAl'
          have HKR0 := Lib.hid hKR'
          have HAL := Lib.hid hAl'
          have HX0 := hX
          have HO0 := hO
          have HR0 := hRk
          have HM0 := hMk
          have HC0 := hOc
          have HON0 := hOn
          have HVK := hvk
          clear hKR' hAl' htk x9 x10 hX hO hKR hRk hMk hOc hOn hvk hAl H1c
          go_wp2_with fail
          go_loopw [7] (fun t7 wr => ∃ (j m' : Nat) (A6 : Option Addr) (c6 : Nat), j ≤ 12 ∧ t7 = .int .i64 j ∧ Hid (m' = i + j) ∧ Hid (wr.heap[b4]? = some (.cells #[.slice A n c, .string q1, .int .i64 q2, .slice A3 n3 c3, .slice AW i cw, .int .i64 q5, .string q6, .slice A7 n7 c7, .slice A5 m c5, .slice A6 m' c6, .pointer (some ⟨R, 0, none⟩)] 50 (0, 0))) ∧
            Hid (wr.ownsRow W1.heap.size 31 10 (.slice A6 m' c6) m' (xs ++ reps (nodeC 78) j)) ∧ Hid (KidsR W1.heap.size wr (.slice A6 m' c6) ws xs) ∧ Hid (RoomT wr R added vL) ∧
            Hid (∀ v ∈ added, ∃ lo hi, W1.heap.size ≤ lo ∧ hi ≤ wr.heap.size ∧ MarkV lo hi wr v ∧ ∀ b, (Value.slice A6 m' c6).ownBlock = some b → b < lo ∨ hi ≤ b) ∧
            Hid (wr.ownsRow W1.heap.size 46 4 (.slice A5 m c5) m (cs.flatMap cellsCp ++ reps markCp 12)) ∧ Hid (Only (fun b => b = b4 ∨ b = R) W1 wr)) (fun t7 _ => 12 - (intOf t7).toNat)
          case atStart => exact ⟨0, i, A6, c6, by omega, rfl, Lib.hid rfl, HX0, Lib.hid (by rw [reps_zero, List.append_nil]; exact HO0.out), HKR0, HR0, HM0, HC0, HON0⟩
          case round =>
            clear HX0 HO0 HKR0 HR0 HM0 HC0 HON0 HBW y4 hsz
            obtain ⟨j, m', A6, c6, hj, rfl, hm', hX, hO, hKR, hRk, hMk, hOc, hOn⟩ := hrel
            generalize wr = w3 at *
            have hsz := hOn.out.size
            have x9 := (blk_cell hX.out 9).trans rfl
            by_cases hjl : j < 12
            · have hle : (m' + 1) * 120 ≤ 140737488355328 := by have := hm'.out; omega
              go_wp2_with (at_builtin; go_must (refine app_cellsB (W := w3) W1.heap.size w3.heap.size (by rfl) hsz (by rfl) _ _ 24 31 _ 10 120 (by rfl) Try.underlying24 infoEx (by rfl) (by decide) (by decide) A6 m' c6 _ (nodeC 78) hO.out (by rfl) (nodeC_one 78) (by rfl) (by rfl) hle ?_))
              intro A6' c6' w5 hO5 hOn5 hB5
              have H5 := Lib.hid (hOn5.out.blk hX.out (fun hs => by
                obtain ⟨c', hc'⟩ := own_typed hO.out b4 hs
                exact two_types31 hc' hX.out (by decide)))
              clear x9
              have x9 := (blk_cell H5.out 9).trans rfl
              have z9 := blk_frozen H5.out 9
              have hob := Lib.hid (fun b hb => own_base hO.out b hb)
              go_wp2_with fail
              have HON6 := Lib.hid (Only.setCell (S := fun b => b = b4) (w := w5) ⟨b4, 9, none⟩ (.slice A6' (m' + 1) c6') rfl)
              have HX6 := Lib.hid (blk_put (cs' := #[.slice A n c, .string q1, .int .i64 q2, .slice A3 n3 c3, .slice AW i cw, .int .i64 q5, .string q6, .slice A7 n7 c7, .slice A5 m c5, .slice A6' (m' + 1) c6', .pointer (some ⟨R, 0, none⟩)]) H5.out 9 (.slice A6' (m' + 1) c6') rfl)
              generalize w5.setCell ⟨b4, 9, none⟩ (.slice A6' (m' + 1) c6') = w6 at *
              have s5 := hOn5.out.size
              have s6 := HON6.out.size
              have hst := Lib.hid (show ∀ b, b < w3.heap.size → (Value.slice A6 m' c6).ownBlock ≠ some b → (∃ c, w3.heap[b]? = some (.cells c 31 (0, 0))) → w6.heap[b]? = w3.heap[b]? from fun b h1 h2 h3 => by
                obtain ⟨c', hc'⟩ := h3
                refine (HON6.out.block b (by omega) (fun e => ?_)).trans (hOn5.out.block b h1 (fun h => h2 h))
                subst e
                exact two_types31 hc' hX.out (by decide))
              have hb4l := Lib.hid (show b4 < W1.heap.size by have := HB4.out; have := HS.out; omega)
              have hne4 := Lib.hid (show ∀ b, W1.heap.size ≤ b → ¬ b = b4 from fun b h e => by have := hb4l.out; omega)
              have HO6 := Lib.hid (show w6.ownsRow W1.heap.size 31 10 (.slice A6' (m' + 1) c6') (m' + 1) (xs ++ reps (nodeC 78) (j + 1)) by
                rw [reps_succ]
                exact HON6.out.own hO5.out (fun b hb hs => hne4.out b (own_base hO5.out b hb) hs))
              have HKR6 := Lib.hid (show KidsR W1.heap.size w6 (.slice A6' (m' + 1) c6') ws xs from KidsR.step hKR.out (by omega) (fun b h1 h2 h3 => hst.out b h1 h2 h3) hB5.out)
              have HR6 := Lib.hid (show RoomT w6 R added vL from (hRk.out.only hOn5.out (fun b hb hs => hRk.out.not31 b hb (own_typed hO.out b hs))).only HON6.out (fun b hb hs => by
                subst hs
                rcases hb with hb | hb
                · have := HRE.out; have := HB4.out; omega
                · obtain ⟨c', hc'⟩ := own_typed hRk.out.hL _ hb
                  exact two_types31 hc' hX.out (by decide)))
              have HM6 := Lib.hid (show ∀ v ∈ added, ∃ lo hi, W1.heap.size ≤ lo ∧ hi ≤ w6.heap.size ∧ MarkV lo hi w6 v ∧ ∀ b, (Value.slice A6' (m' + 1) c6').ownBlock = some b → b < lo ∨ hi ≤ b by
                intro v hv
                obtain ⟨lo, hi, h1, h2, h3, h4⟩ := hMk.out v hv
                refine ⟨lo, hi, h1, by omega, h3.move (fun b b1 b2 _ b4 => hst.out b (by omega) (fun hb => by have := h4 b hb; omega) b4), fun b hb => ?_⟩
                rcases hB5.out b hb with h5 | h5
                · exact h4 b h5
                · exact Or.inr (by omega))
              have HOC6 := Lib.hid (show w6.ownsRow W1.heap.size 46 4 (.slice A5 m c5) m (cs.flatMap cellsCp ++ reps markCp 12) from HON6.out.own (hOn5.out.own hOc.out (fun b hb hs => by
                obtain ⟨c', hc'⟩ := own_typed hOc.out b hb
                obtain ⟨c2, hc2⟩ := own_typed hO.out b hs
                exact two_types31 hc' hc2 (by decide))) (fun b hb hs => hne4.out b (own_base hOc.out b hb) hs))
              have HOnn := Lib.hid (show Only (fun b => b = b4 ∨ b = R) W1 w6 from ((hOn.out.trans hOn5.out (fun b hb hs => by have := hob.out b hs; omega)).trans HON6.out (fun b _ hs => Or.inl hs)))
              clear HON6 H5 x9 z9 hst hne4 hb4l
              go_wp2_with fail
              go_roundw
              case rel =>
                refine ⟨_, _, _, _, _, _, _, _, _, _, _, ?_, rfl⟩
                exact ⟨j + 1, m' + 1, A6', c6', by omega, by go_num, Lib.hid (by have := hm'.out; omega), HX6, HO6, HKR6, HR6, HM6, HOC6, HOnn⟩
              case measure => simp [intOf]; omega
            · obtain rfl : j = 12 := by omega
              clear x9
              obtain ⟨g5, rfl⟩ : ∃ g, A5 = some ⟨g, 0, none⟩ := by
                obtain ⟨_, _, he, _, _, hg, _⟩ := own_shape hOc.out
                injection he with he _ _
                rw [he]
                exact hg (by have := HM.out; omega)
              obtain ⟨g6, rfl⟩ : ∃ g, A6 = some ⟨g, 0, none⟩ := by
                obtain ⟨_, _, he, _, _, hg, _⟩ := own_shape hO.out
                injection he with he _ _
                rw [he]
                exact hg (by have := hm'.out; omega)
              obtain ⟨hmc, hmx5⟩ : m ≤ c5 ∧ c5 ≤ 9223372036854775807 := by
                obtain ⟨_, _, he, h1, h2, _⟩ := own_shape hOc.out
                injection he with _ _ he
                omega
              obtain ⟨hmc6, hmx6⟩ : m' ≤ c6 ∧ c6 ≤ 9223372036854775807 := by
                obtain ⟨_, _, he, h1, h2, _⟩ := own_shape hO.out
                injection he with _ _ he
                omega
              have hcut1 := cutHM22 g5 n m c5 (by have := HM.out; omega) hmc
              have hcut2 := cutHM g6 i m' c6 (by have := hm'.out; omega) hmc6 (by have := hm'.out; omega)
              have H1c := Lib.hid (show w3.heap[w.heap.size]? = some (.cells #[.slice A n c, .string q1, .int .i64 q2, .slice A3 n3 c3, .slice AW i cw, .int .i64 q5, .string q6, .slice A7 n7 c7] 27 (0, 0)) by
                have h := hOn.out.blk H1.out (by have := HB4.out; have := HRE.out; show ¬ (w.heap.size = b4 ∨ w.heap.size = R); omega)
                rw [← HN.out, ← HMW.out] at h
                exact h)
              have H2c := Lib.hid (hOn.out.blk H2.out (by have := HB4.out; have := HRE.out; show ¬ (w.heap.size + 1 = b4 ∨ w.heap.size + 1 = R); omega))
              have hnb1 : w.heap.size ≠ b4 := by have := HB4.out; omega
              have hnb2 : w.heap.size + 1 ≠ b4 := by have := HB4.out; omega
              have x8 := (blk_cell hX.out 8).trans rfl
              have y0 := (blk_cell H1c.out 0).trans rfl
              have z0 := blk_frozen hX.out 0
              have x0 := (blk_cell hX.out 0).trans rfl
              go_upto_region 17 with fail
              have H6 := Lib.hid (blk_put (cs' := #[.slice (some ⟨g5, 0, none⟩) n m, .string q1, .int .i64 q2, .slice A3 n3 c3, .slice AW i cw, .int .i64 q5, .string q6, .slice A7 n7 c7, .slice (some ⟨g5, 0, none⟩) m c5, .slice (some ⟨g6, 0, none⟩) m' c6, .pointer (some ⟨R, 0, none⟩)]) hX.out 0 (.slice (some ⟨g5, 0, none⟩) n m) rfl)
              have H16 := Lib.hid (blk_far H1c.out (p := ⟨b4, 0, none⟩) hnb1 (.slice (some ⟨g5, 0, none⟩) n m))
              have H26 := Lib.hid (blk_far H2c.out (p := ⟨b4, 0, none⟩) hnb2 (.slice (some ⟨g5, 0, none⟩) n m))
              have HON6 := Lib.hid (Only.setCell (S := fun b => b = b4) (w := w3) ⟨b4, 0, none⟩ (.slice (some ⟨g5, 0, none⟩) n m) rfl)
              generalize w3.setCell ⟨b4, 0, none⟩ (.slice (some ⟨g5, 0, none⟩) n m) = w6 at *
              clear x8 y0 z0 x0
              have x9 := (blk_cell H6.out 9).trans rfl
              have y4 := (blk_cell H16.out 4).trans rfl
              have z4 := blk_frozen H6.out 4
              have x4 := (blk_cell H6.out 4).trans rfl
              go_upto_region 18 with fail
              have H7 := Lib.hid (blk_put (cs' := #[.slice (some ⟨g5, 0, none⟩) n m, .string q1, .int .i64 q2, .slice A3 n3 c3, .slice (some ⟨g6, 0, none⟩) i m', .int .i64 q5, .string q6, .slice A7 n7 c7, .slice (some ⟨g5, 0, none⟩) m c5, .slice (some ⟨g6, 0, none⟩) m' c6, .pointer (some ⟨R, 0, none⟩)]) H6.out 4 (.slice (some ⟨g6, 0, none⟩) i m') rfl)
              have H27 := Lib.hid (blk_far H26.out (p := ⟨b4, 4, none⟩) hnb2 (.slice (some ⟨g6, 0, none⟩) i m'))
              have HON7 := Lib.hid (HON6.out.same (Only.setCell (S := fun b => b = b4) (w := w6) ⟨b4, 4, none⟩ (.slice (some ⟨g6, 0, none⟩) i m') rfl))
              generalize w6.setCell ⟨b4, 4, none⟩ (.slice (some ⟨g6, 0, none⟩) i m') = w7 at *
              clear x9 y4 z4 x4
              have x0 := (blk_cell H7.out 0).trans rfl
              have z0 := (blk_cell H27.out 0).trans rfl
              have x1 := (blk_cell H7.out 1).trans rfl
              have z1 := (blk_cell H27.out 1).trans rfl
              have x2 := (blk_cell H7.out 2).trans rfl
              have z2 := (blk_cell H27.out 2).trans rfl
              have x3 := (blk_cell H7.out 3).trans rfl
              have z3 := (blk_cell H27.out 3).trans rfl
              have x4 := (blk_cell H7.out 4).trans rfl
              have z4 := (blk_cell H27.out 4).trans rfl
              have x5 := (blk_cell H7.out 5).trans rfl
              have z5 := (blk_cell H27.out 5).trans rfl
              have x6 := (blk_cell H7.out 6).trans rfl
              have z6 := (blk_cell H27.out 6).trans rfl
              have x7 := (blk_cell H7.out 7).trans rfl
              have z7 := (blk_cell H27.out 7).trans rfl
              have x8 := (blk_cell H7.out 8).trans rfl
              have z8 := (blk_cell H27.out 8).trans rfl
              have x9 := (blk_cell H7.out 9).trans rfl
              have z9 := (blk_cell H27.out 9).trans rfl
              have x10 := (blk_cell H7.out 10).trans rfl
              have z10 := (blk_cell H27.out 10).trans rfl
              have fz := blk_frozen H27.out
              go_wp2_with fail
              refine bodyPost_ret (results_cell_row rfl _ _ (w.heap.size + 1) 50 #[.slice (some ⟨g5, 0, none⟩) n m, .string q1, .int .i64 q2, .slice A3 n3 c3, .slice (some ⟨g6, 0, none⟩) i m', .int .i64 q5, .string q6, .slice A7 n7 c7, .slice (some ⟨g5, 0, none⟩) m c5, .slice (some ⟨g6, 0, none⟩) m' c6, .pointer (some ⟨R, 0, none⟩)] (0, 0) _ rfl (blk_set11 H27.out _ _ _ _ _ _ _ _ _ _ _) Try.underlying50 rfl (by kernel_rfl)) rfl ?_
              refine twin_close HS.out HB.out HB4.out HRE.out HN.out HMW.out HM.out hm'.out hOc.out hO.out hKR.out hRk.out (fun v hv => by obtain ⟨lo, hi, _, _, h, _⟩ := hMk.out v hv; exact ⟨lo, hi, h⟩) hOn.out ?_ (fun b hb => ?_) HAL.out
              · have hs : ∀ (v : World) (o : Nat) (u : Value), Only (fun b => b = b4 ∨ b = w.heap.size + 1) w3 v → Only (fun b => b = b4 ∨ b = w.heap.size + 1) w3 (v.setCell ⟨w.heap.size + 1, o, none⟩ u) := fun v o u h => h.same (Only.setCell ⟨w.heap.size + 1, o, none⟩ u (Or.inr rfl))
                exact hs _ _ _ (hs _ _ _ (hs _ _ _ (hs _ _ _ (hs _ _ _ (hs _ _ _ (hs _ _ _ (hs _ _ _ (hs _ _ _ (hs _ _ _ (hs _ _ _ (HON7.out.mono (fun b _ h => Or.inl h))))))))))))
              · rcases hb with rfl | rfl
                · exact ⟨_, hX.out⟩
                · exact ⟨_, H2c.out⟩
end Go.Proofs.Ytgnifglolbfamaa
