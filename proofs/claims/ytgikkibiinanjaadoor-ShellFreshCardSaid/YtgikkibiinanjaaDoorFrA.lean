/- Memory of ShellFresh: rows of strings in blocks of their own; the text of a mark. -/
import Derived.Test.YtgikkibiinanjaaDoorShJ
import Derived.Deep.OwnRows
import Derived.Deep.AppendLies
import Derived.Lib.AppendIntMem
import Derived.Lib.ItoaLen
set_option linter.unusedVariables false
set_option linter.unusedSimpArgs false
namespace Go.Proofs.YtgikkibiinanjaaDoor
open Go.RowKit

/-- All blocks that were there, those of S aside, are as they were. -/
structure Only (S : Nat → Prop) (w w' : World) : Prop where
  os : w'.os = w.os
  tape : w'.tape = w.tape
  output : w'.output = w.output
  size : w.heap.size ≤ w'.heap.size
  block : ∀ k, k < w.heap.size → ¬ S k → w'.heap[k]? = w.heap[k]?

namespace Only
variable {S T : Nat → Prop} {w w1 w2 : World}
theorem refl (S : Nat → Prop) (w : World) : Only S w w := ⟨rfl, rfl, rfl, Nat.le_refl _, fun _ _ _ => rfl⟩
theorem trans (h : Only S w w1) (k : Only T w1 w2) (hs : ∀ b, b < w.heap.size → T b → S b) : Only S w w2 :=
  ⟨k.os.trans h.os, k.tape.trans h.tape, k.output.trans h.output, Nat.le_trans h.size k.size, fun i hi hn => (k.block i (Nat.lt_of_lt_of_le hi h.size) (fun ht => hn (hs i hi ht))).trans (h.block i hi hn)⟩
theorem same (h : Only S w w1) (k : Only S w1 w2) : Only S w w2 := h.trans k (fun _ _ h => h)
theorem mono (h : Only S w w1) (hs : ∀ b, b < w.heap.size → S b → T b) : Only T w w1 := ⟨h.os, h.tape, h.output, h.size, fun i hi hn => h.block i hi (fun x => hn (hs i hi x))⟩
theorem of_below (h : Below w.heap.size w w1) : Only S w w1 := ⟨h.os, h.tape, h.output, h.size, fun i hi _ => h.block i hi⟩
theorem below {B : Nat} (h : Only S w w1) (hB : B ≤ w.heap.size) (hs : ∀ b, b < B → ¬ S b) : Below B w w1 := ⟨h.os, h.tape, h.output, h.size, fun i hi => h.block i (Nat.lt_of_lt_of_le hi hB) (hs i hi)⟩
theorem setCell (a : Addr) (v : Value) (ha : S a.block) : Only S w (w.setCell a v) := ⟨rfl, rfl, rfl, by simp [World.setCell], fun k _ hn => Below.heap_setCell _ _ _ _ (fun e => hn (e ▸ ha))⟩
theorem alloc (o : Obj) : Only S w (w.alloc o) := of_below ((Below.refl _ _).alloc (Nat.le_refl _) o)
theorem drew : Only S w w.drew := of_below (Below.refl _ _).drew
theorem drewN (n : Nat) : Only S w (w.drewN n) := of_below (below_drewN (Below.refl _ _) n)
theorem grown {row : Option Nat} (hg : w.grownBy w1 row) (hr : ∀ k, row = some k → S k) : Only S w w1 :=
  ⟨hg.os, hg.tape, hg.output, hg.size, fun k hk hn => hg.block k hk (fun e => hn (hr k e.symm))⟩
theorem blk {g : Nat} {o : Obj} (h : Only S w w1) (hb : w.heap[g]? = some o) (hn : ¬ S g) : w1.heap[g]? = some o :=
  (h.block g (Array.getElem?_eq_some_iff.1 hb).1 hn).trans hb
theorem row {g : Nat} {t : TypeId} {n : Nat} {f : Nat → Value} (h : Only S w w1) (hb : w.rowIs g t n f) (hn : ¬ S g) : w1.rowIs g t n f := hb.of_block (h.block g hb.lt hn)
end Only

theorem blk_lt' {w : World} {g : Nat} {o : Obj} (h : w.heap[g]? = some o) : g < w.heap.size := (Array.getElem?_eq_some_iff.1 h).1
theorem cellB {w : World} {g : Nat} {t : TypeId} {cs : Array Value} (h : w.heap[g]? = some (.cells cs t (0, 0))) (i : Nat) : w.cell? ⟨g, i, none⟩ = cs[i]? := cell_of_row w g i cs t (0, 0) h
theorem frozenB {w : World} {g : Nat} {t : TypeId} {cs : Array Value} (h : w.heap[g]? = some (.cells cs t (0, 0))) (i : Nat) : w.frozen? ⟨g, i, none⟩ = false := by simp [World.frozen?, h]
theorem setB {w : World} {g : Nat} {t : TypeId} {cs cs' : Array Value} (h : w.heap[g]? = some (.cells cs t (0, 0))) (i : Nat) (u : Value) (e : cs.setIfInBounds i u = cs') : (w.setCell ⟨g, i, none⟩ u).heap[g]? = some (.cells cs' t (0, 0)) := by
  subst e
  simp [World.setCell, Array.getElem?_modify, h]

/-- A slice of strings with a block of its own (or nil). -/
structure Rw where
  g : Option Nat
  n : Nat
  cap : Nat
/-- where it begins. -/
def Rw.A (r : Rw) : Option Addr := r.g.map (fun g => ⟨g, 0, none⟩)
/-- its value, m elements long. -/
def Rw.v (r : Rw) (m : Nat) : Value := .slice r.A m r.cap
/-- It lies in w, and holds f. -/
def Rw.In (r : Rw) (w : World) (f : Nat → Value) : Prop := r.n ≤ r.cap ∧ match r.g with
  | some g => r.cap ≤ maxLen ∧ w.rowIs g 9 r.cap f
  | none => r.cap = 0
theorem Rw.In.le {r : Rw} {w : World} {f : Nat → Value} (h : r.In w f) : r.n ≤ r.cap := h.1
theorem Rw.In.capmax {r : Rw} {w : World} {f : Nat → Value} (h : r.In w f) : r.cap ≤ 9223372036854775807 := by
  obtain ⟨_, h⟩ := h
  rcases hg : r.g with _ | g
  · rw [hg] at h; simp only at h; omega
  · rw [hg] at h; have := h.1; simp only [maxLen] at this; omega
theorem Rw.In.lt {r : Rw} {w : World} {f : Nat → Value} (h : r.In w f) : ∀ g, r.g = some g → g < w.heap.size := by
  intro g hg
  obtain ⟨_, h⟩ := h
  rw [hg] at h
  exact h.2.lt
theorem Rw.In.only {r : Rw} {w w' : World} {f : Nat → Value} {S : Nat → Prop} (h : r.In w f) (ho : Only S w w') (hn : ∀ g, r.g = some g → ¬ S g) : r.In w' f := by
  obtain ⟨h1, h2⟩ := h
  refine ⟨h1, ?_⟩
  rcases hg : r.g with _ | g
  · rw [hg] at h2; exact h2
  · rw [hg] at h2; exact ⟨h2.1, ho.row h2.2 (hn g hg)⟩
theorem Rw.In.congr {r : Rw} {w : World} {f f' : Nat → Value} (h : r.In w f) (e : ∀ i, i < r.cap → f i = f' i) : r.In w f' := by
  obtain ⟨h1, h2⟩ := h
  refine ⟨h1, ?_⟩
  rcases hg : r.g with _ | g
  · rw [hg] at h2; exact h2
  · rw [hg] at h2; exact ⟨h2.1, h2.2.congr e⟩
theorem Rw.A_some {r : Rw} {g : Nat} (h : r.g = some g) : r.A = some ⟨g, 0, none⟩ := by unfold Rw.A; rw [h]; rfl
theorem Rw.In.ex {r : Rw} {w : World} {f : Nat → Value} (h : r.In w f) (hc : 0 < r.cap) : ∃ g, r.g = some g ∧ r.A = some ⟨g, 0, none⟩ := by
  obtain ⟨h1, h2⟩ := h
  rcases hg : r.g with _ | g
  · rw [hg] at h2; simp only at h2; omega
  · exact ⟨g, rfl, Rw.A_some hg⟩
theorem Rw.v_slice (r : Rw) (w : World) (f : Nat → Value) (h : r.In w f) (m : Nat) (hm : m ≤ r.cap) : ∃ A, r.v m = .slice A m r.cap ∧ (0 < r.cap → ∃ g, r.g = some g ∧ A = some ⟨g, 0, none⟩) :=
  ⟨r.A, rfl, fun hc => h.ex hc⟩
/-- what the call owns is such a row. -/
theorem Rw.of_own {w : World} {base : Nat} {v : Value} {n : Nat} {xs : List Value} (h : w.ownsRow base 9 1 v n xs) :
    ∃ (r : Rw) (f : Nat → Value), v = r.v n ∧ r.n = n ∧ r.In w f ∧ (∀ g, r.g = some g → base ≤ g) ∧ ∀ j u, xs[j]? = some u → f j = u := by
  obtain ⟨h1, h2⟩ := h
  rcases h2 with ⟨rfl, rfl⟩ | ⟨g, cap, cur, rfl, hb, hg, hn, hm, hs, ht⟩
  · refine ⟨⟨none, 0, 0⟩, fun _ => .string ⟨#[]⟩, rfl, rfl, ⟨Nat.le_refl _, rfl⟩, by simp, ?_⟩
    intro j u hj
    have : xs = [] := List.eq_nil_of_length_eq_zero (by simpa using h1)
    subst this
    simp at hj
  · refine ⟨⟨some g, n, cap⟩, fun i => cur.getD i (.string ⟨#[]⟩), rfl, rfl, ⟨hn, hm, cur, hg, by show cur.size = cap; omega, fun i hi => ?_⟩, fun k hk => by cases hk; exact hb, ?_⟩
    · have hi : i < cap := hi
      have hi2 : i < cur.size := by omega
      simp [Array.getD_eq_getD_getElem?, Array.getElem?_eq_getElem hi2]
    · intro j u hj
      have hjl : j < xs.length := (List.getElem?_eq_some_iff.1 hj).1
      rw [← ht, List.getElem?_take] at hj
      split at hj
      · show cur.getD j (.string ⟨#[]⟩) = u
        rw [Array.getD_eq_getD_getElem?]
        rw [Array.getElem?_toList] at hj
        rw [hj]
        rfl
      · cases hj
theorem Rw.strs {r : Rw} {w : World} {f : Nat → Value} (h : r.In w f) (l : List (List UInt8)) (hl : r.n = l.length) (hf : ∀ i (hi : i < l.length), f i = strv l[i]) : StrsAt w (r.v r.n) l := by
  have hc := h.capmax
  have hle := h.le
  obtain ⟨A, e, hA⟩ := Rw.v_slice r w f h r.n hle
  refine ⟨A, r.cap, by rw [e, hl], by omega, fun i hi => ?_⟩
  obtain ⟨g, hg, rfl⟩ := hA (by omega)
  refine ⟨_, rfl, ?_⟩
  have h2 := h.2
  rw [hg] at h2
  have ea : (⟨g, 0, none⟩ : Addr).add i = ⟨g, i, none⟩ := by unfold Addr.add; split <;> simp_all
  rw [ea, h2.2.cell (by omega), hf i hi]

/-- The text of a mark. -/
def markB (m : Nat) : ByteArray := ⟨#[35]⟩ ++ ⟨(Lib.itoa (m : Int)).toArray⟩
def mark (m : Nat) : Value := .string (markB m)
abbrev Tab (B : Nat) (w : World) : Prop := Lib.TabBelow Tryd.prog B w "internal/strconv.uint64pow10" .u64 Lib.pow10Tab
theorem word_any (m : Nat) (hm : m ≤ 1000000000000) (B : Nat) (w : World) (hB : B ≤ w.heap.size) (ht : Tab B w) :
    Calls Tryd.prog 14 #[.int .i64 m] w fun e w' => e = .returned (mark m) ∧ Below w.heap.size w w' := by
  have h0 : (-9223372036854775808 : Int) ≤ (m : Int) := by omega
  have h1 : (m : Int) ≤ 9223372036854775807 := by omega
  have hd : ¬ (9223372036854775807 < 1 + (Lib.itoa (m : Int)).length) := by have := Lib.itoa_length_le (m : Int) h0 h1; omega
  have HT := Lib.hid ht.here
  clear ht
  go_enter Tryd.func14, Tryd.ntmps14
  go_wp2_with fail
  refine (Tryd.strconv_Itoa _ h0 h1 _ HT.out).mono ?_
  rintro e w' ⟨rfl, k, os, rfl⟩
  have hb := Lib.below_grow w.heap.size w (Nat.le_refl _) k os
  generalize Go.Sort.grow (w.drewN k) os = w1 at *
  go_wp2_with fail
  go_ret
  exact ⟨rfl, hb⟩
theorem far_any (x : Int) (w : World) : Calls Tryd.prog 15 #[.int .i64 x] w fun e w' => e = .returned (.int .i64 (min x 70000)) ∧ w' = w := by
  go_enter Tryd.func15, Tryd.ntmps15
  go_wp2_with fail
  go_ret
  refine ⟨?_, rfl⟩
  congr 2
  all_goals (try omega)
end Go.Proofs.YtgikkibiinanjaaDoor
