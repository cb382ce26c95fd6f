/- Texts of the claim, merged in build order: QTH. -/
import Derived.Test.YtgnifglolbfamaaZAX
/- A twin as it stands: its rows, its marks, what it reads as. -/
set_option linter.unusedVariables false
set_option linter.unusedSimpArgs false
namespace Go.Proofs.Ytgnifglolbfamaa
open Go.RowKit Go.Proofs.YtgnifglolbfamaaW.PrintWords

def cellsCp (x : Cp) : List Value := [.bool x.f0, .bool x.f1, .string x.f2, .string x.f3]
def markCp : List Value := [.bool false, .bool false, .string ⟨#[]⟩, .string ⟨#[109, 97, 114, 107]⟩]
/-- The rows of a copy, as they stand. -/
structure Twn (w : World) (cs : List Cp) (ws : List Ex) (A5 : Option Addr) (n c5 : Nat) (A6 : Option Addr) (m c6 R : Nat) (ls : List Value) (vL : Value) : Prop where
  n_ : n = cs.length
  m_ : m = ws.length
  comps : kCp.C w A5 n cs
  cmark : ∃ g5, A5 = some ⟨g5, 0, none⟩ ∧ ∀ k, k < 12 → w.cell? ⟨g5, (n + k) * 4 + 3, none⟩ = some (.string ⟨#[109, 97, 114, 107]⟩)
  where_ : kEx.C w A6 m ws
  wmark : ∃ g6, A6 = some ⟨g6, 0, none⟩ ∧ ∀ k, k < 12 → w.cell? ⟨g6, (m + k) * 10, none⟩ = some (.int .i64 78)
  room : RoomT w R ls vL
  marks : ∀ v ∈ ls, ∃ lo hi, MarkV lo hi w v
  cc : n + 12 ≤ c5
  mc : m + 12 ≤ c6
  mx : c6 ≤ 9223372036854775807
theorem Twn.below {w w' : World} {cs : List Cp} {ws : List Ex} {A5 : Option Addr} {n c5 : Nat} {A6 : Option Addr} {m c6 R : Nat} {ls : List Value} {vL : Value} (h : Twn w cs ws A5 n c5 A6 m c6 R ls vL) (hb : Below w.heap.size w w') : Twn w' cs ws A5 n c5 A6 m c6 R ls vL := by
  obtain ⟨g5, e5, m5⟩ := h.cmark
  obtain ⟨g6, e6, m6⟩ := h.wmark
  refine ⟨h.n_, h.m_, Kd.C_below h.comps hb, ⟨g5, e5, fun k hk => pw_cell_below hb (m5 k hk)⟩, Kd.C_below h.where_ hb, ⟨g6, e6, fun k hk => pw_cell_below hb (m6 k hk)⟩, h.room.only (S := fun _ => False) (Only.of_below hb) (fun _ _ h => h), fun v hv => ?_, h.cc, h.mc, h.mx⟩
  obtain ⟨lo, hi, hm⟩ := h.marks v hv
  exact ⟨lo, hi, hm.move (fun b _ _ _ hb4 => by obtain ⟨c, hc⟩ := hb4; exact (blk_below hc hb).trans hc.symm)⟩
theorem reps_at {l : List Value} {sz n k i : Nat} (hl : l.length = sz) (hk : k < n) (hi : i < sz) : (reps l n)[k * sz + i]? = l[i]? := by
  have h2 := flat_at (fun _ : Nat => l) sz (List.range n) (fun _ _ => hl) k _ (List.getElem?_eq_getElem (by rw [List.length_range]; exact hk))
  have h1 := congrArg (fun z => z[i]?) h2
  simp only [List.getElem?_take, if_pos hi, List.getElem?_drop] at h1
  exact h1
theorem twn_of {base n m c5 c6 R : Nat} {w3 wF : World} {cs : List Cp} {ws : List Ex} {A5 A6 : Option Addr} {xs ls : List Value} {vL : Value} {S : Nat → Prop} (hn : n = cs.length) (hm : m = ws.length)
    (hOc : w3.ownsRow base 46 4 (.slice A5 (n + 12) c5) (n + 12) (cs.flatMap cellsCp ++ reps markCp 12)) (hO : w3.ownsRow base 31 10 (.slice A6 (m + 12) c6) (m + 12) (xs ++ reps (nodeC 78) 12)) (hKR : KidsR base w3 (.slice A6 (m + 12) c6) ws xs)
    (hR : RoomT w3 R ls vL) (hM : ∀ v ∈ ls, ∃ lo hi, MarkV lo hi w3 v) (hF : Only S w3 wF) (hS : ∀ b, S b → ∃ c, w3.heap[b]? = some (.cells c 50 (0, 0))) : Twn wF cs ws A5 n c5 A6 m c6 R ls vL := by
  have hst : ∀ (t : TypeId) (b : Nat), t ≠ 50 → (∃ c, w3.heap[b]? = some (.cells c t (0, 0))) → wF.heap[b]? = w3.heap[b]? := by
    rintro t b ht ⟨c, hc⟩
    refine hF.block b (blk_lt hc) (fun hs => ?_)
    obtain ⟨c', hc'⟩ := hS b hs
    exact two_types31 hc hc' ht
  have hOc' := own_move hOc (w1 := wF) (fun k hk => hst 46 k (by decide) (own_typed hOc k hk))
  have hO' := own_move hO (w1 := wF) (fun k hk => hst 31 k (by decide) (own_typed hO k hk))
  have hcl : (cs.flatMap cellsCp).length = n * 4 := by rw [flat_len cellsCp 4 cs (fun _ _ => rfl), hn]
  have hxl : xs.length = m * 10 := by
    have := hO.1
    rw [List.length_append, reps_len] at this
    have h2 : (nodeC 78).length = 10 := rfl
    omega
  obtain ⟨A5', _, e5, hc5, _, hg5, _⟩ := own_shape hOc'
  injection e5 with e5a _ e5c
  subst e5a e5c
  obtain ⟨g5, rfl⟩ := hg5 (by omega)
  obtain ⟨A6', _, e6, hc6, hx6, hg6, _⟩ := own_shape hO'
  injection e6 with e6a _ e6c
  subst e6a e6c
  obtain ⟨g6, rfl⟩ := hg6 (by omega)
  refine ⟨hn, hm, ?_, ⟨g5, rfl, fun k hk => ?_⟩, ?_, ⟨g6, rfl, fun k hk => ?_⟩, ?_, fun v hv => ?_, hc5, hc6, hx6⟩
  · have hp := own_prefix hOc' hcl (by simp) (Nat.le_add_right n 12)
    have hr : Reps (kCp.K wF) 4 cs (cs.flatMap cellsCp) := by
      have := reps_flat cellsCp (fun x => x) (kCp.K wF) 4 cs (fun _ _ => rfl) (fun x _ => kCp_mk wF x)
      rwa [List.map_id'] at this
    obtain ⟨A, c, hv, hC⟩ := own_reads_row hp hr hn.symm
    injection hv with h1 h2 h3
    rw [h1]
    exact hC
  · rw [hOc'.cellAt _ (by omega), List.getElem?_append_right (by omega), hcl, show (n + k) * 4 + 3 - n * 4 = k * 4 + 3 by omega, reps_at (l := markCp) (sz := 4) rfl hk (by decide)]
    rfl
  · have hp := own_prefix hO' hxl (by simp) (Nat.le_add_right m 12)
    have hr := hKR wF (fun b _ _ _ h4 => hst 31 b (by decide) h4)
    obtain ⟨A, c, hv, hC⟩ := own_reads_row hp hr hm.symm
    injection hv with h1 h2 h3
    rw [h1]
    exact hC
  · rw [hO'.cellAt _ (by omega), List.getElem?_append_right (by omega), hxl, show (m + k) * 10 - m * 10 = k * 10 + 0 by omega, reps_at (l := nodeC 78) (sz := 10) rfl hk (by decide)]
    rfl
  · refine hR.only hF (fun b hb hs => ?_)
    obtain ⟨c', hc'⟩ := hS b hs
    rcases hb with rfl | hb
    · exact two_types31 hR.hR hc' (by decide)
    · obtain ⟨c, hc⟩ := own_typed hR.hL b hb
      exact two_types31 hc hc' (by decide)
  · obtain ⟨lo, hi, hm⟩ := hM v hv
    exact ⟨lo, hi, hm.move (fun b _ _ _ h4 => hst 31 b (by decide) h4)⟩
end Go.Proofs.Ytgnifglolbfamaa
