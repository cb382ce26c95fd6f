/- (*Book).grow: all lists are written on beyond their ends. -/
import Derived.Test.YtgikkibiinanjaaDoorFrB
import Derived.BigQuiet
set_option linter.unusedVariables false
set_option linter.unusedSimpArgs false
namespace Go.Proofs.YtgikkibiinanjaaDoor
open Go.RowKit

section
variable {P : Program} {ops : Array Oper} {rest : List Oper} {o : Oper} {a : Act} {Q : Exit → Act → World → Prop}
/-- append(v, u) where there is room: in place. -/
theorem app_room {W : World} (H : Nat) (hH : W.heap.size = H) (hgd : o.guard = none) (s x : Operand) (ho : o.op = .call { callee := .builtin .append, args := #[s, x], argTypes := #[22, 22] })
    (r : Rw) (f : Nat → Value) (m : Nat) (hIn : r.In W f) (hm : m < r.cap) (A : Option Addr) (hA : A = r.A) (u : Value) (hu : u.oneCell' = true) (hs : a.eval s = .slice A m r.cap) (hx : a.eval x = .slice (some ⟨H, 0, none⟩) 1 1)
    (h : ∀ w1, Hid (r.In w1 (fun j => if j = m then u else f j)) → Hid (Only (fun k => r.g = some k) W w1) → wpList Tryd.prog ops Q rest (a.put o.dst (.slice A (m + 1) r.cap)) w1) :
    wpList Tryd.prog ops Q (o :: rest) a (W.alloc (.cells #[u] 9)) := by
  subst hH
  subst hA
  obtain ⟨i0, hi, hz0, hz1, hz2⟩ := info_parts infoStr
  obtain ⟨h1, h2⟩ := hIn
  obtain ⟨g, hg, hAg⟩ := Rw.In.ex (r := r) (w := W) (f := f) ⟨h1, h2⟩ (by omega)
  rw [hg] at h2
  obtain ⟨hcm, cur, hb, hcs, hcur⟩ := h2
  have hb2 : (W.alloc (.cells #[u] 9)).heap[g]? = some (.cells cur 9 (0, 0)) := (Below.heap_alloc W _ _ (blk_lt' hb)).trans hb
  have hlist : (cur.toList.take (m * i0.size) ++ [u] ++ cur.toList.drop (m * i0.size + [u].length)).toArray = cur.setIfInBounds m u := by
    rw [hz1, Nat.mul_one]
    apply Array.ext'
    rw [Array.toList_setIfInBounds, List.set_eq_take_append_cons_drop, if_pos (by rw [Array.length_toList]; omega)]
    simp
  have hr := run_append_room (P := Tryd.prog) (W.alloc (.cells #[u] 9)) 22 o.type 9 i0 Tryd.underlying22 hi g m r.cap cur hb2 ⟨W.heap.size, 0, none⟩ 1 1 [u] (by rw [hz1]; rfl)
    (fun j z hj => by
      have e : (⟨W.heap.size, 0, none⟩ : Addr).add j = ⟨W.heap.size, j, none⟩ := by unfold Addr.add; split <;> simp_all
      rw [e, cellB (heap_alloc_new W _)]
      match j, hj with
      | 0, hj => simpa using hj)
    (fun z hz => by simp at hz; rw [hz]; exact hu) (by omega) (by rw [hz1]; simp; omega)
  rw [hlist] at hr
  refine wpList_plain hgd fun K hK => ?_
  unfold Oper.wp execOp
  rw [hAg] at hs
  simp only [ho, resolve, invoke, builtin, Sem.run_bind, Sem.run_pure, Result.andThen_ok, List.map_toArray, List.map_cons, List.map_nil, hs, hx, hr]
  refine hK _ _ ?_
  rw [← hAg]
  refine h _ (Lib.hid ⟨h1, ?_⟩) (Lib.hid ((Only.alloc _).same ⟨rfl, rfl, rfl, by simp, fun k _ hn => setRow_other _ g k _ (fun e => hn (e ▸ hg))⟩))
  rw [hg]
  refine ⟨hcm, _, setRow_heap _ g cur _ 9 _ hb2, by simpa using hcs, fun i hi => ?_⟩
  rw [Array.getElem?_setIfInBounds]
  by_cases e : m = i
  · subst e; simp [hcs, hm]
  · rw [if_neg e]
    show cur[i]? = some (if i = m then u else f i)
    rw [if_neg (fun h => e h.symm)]
    exact hcur i hi
end

/-- how far a list is written on beyond its end. -/
def rm (r : Rw) : Nat := min (r.cap - r.n) 70000
/-- The lists of a Book: each twice, the second time with what was put behind it (nil: not yet). -/
def BookVals (xs : List Value) (es : List Rw) (a : Nat) : Prop :=
  xs.length = 2 * es.length ∧ ∀ k (hk : k < es.length), xs[2 * k]? = some (es[k].v es[k].n) ∧ xs[2 * k + 1]? = some (if k < a then es[k].v (es[k].n + rm es[k]) else .slice none 0 0)
/-- what a row holds, by its block. -/
def cont (M : Nat → Nat → Value) (r : Rw) : Nat → Value := M (r.g.getD 0)
theorem cont_some {M : Nat → Nat → Value} {r : Rw} {g : Nat} (h : r.g = some g) : cont M r = M g := by unfold cont; rw [h]; rfl
def AllIn (w : World) (es : List Rw) (M : Nat → Nat → Value) : Prop := ∀ r ∈ es, r.In w (cont M r)
theorem AllIn.only {w w' : World} {es : List Rw} {M : Nat → Nat → Value} {S : Nat → Prop} (h : AllIn w es M) (ho : Only S w w') (hn : ∀ r ∈ es, ∀ g, r.g = some g → ¬ S g) : AllIn w' es M := fun r hr => (h r hr).only ho (hn r hr)
/-- one block's content turned. -/
def Mput (M : Nat → Nat → Value) (g : Nat) (f : Nat → Value) : Nat → Nat → Value := fun b => if b = g then f else M b
theorem AllIn.put {w w' : World} {es : List Rw} {M : Nat → Nat → Value} {r : Rw} {f : Nat → Value} {g : Nat} (h : AllIn w es M) (hg : r.g = some g) (ho : Only (fun k => r.g = some k) w w') (hr : ∀ r' ∈ es, r'.g = some g → r'.In w' f) : AllIn w' es (Mput M g f) := by
  intro r' hr'
  by_cases e : r'.g = some g
  · rw [cont_some e]
    unfold Mput
    rw [if_pos rfl]
    exact hr r' hr' e
  · have h1 := (h r' hr').only ho (fun k hk h2 => e (by rw [hk]; rw [hg] at h2; exact h2.symm))
    rcases hg' : r'.g with _ | k
    · exact ⟨h1.1, by have h2 := h1.2; rw [hg'] at h2 ⊢; exact h2⟩
    · rw [cont_some hg'] at h1 ⊢
      unfold Mput
      rw [if_neg (fun h => e (by rw [hg', h]))]
      exact h1
end Go.Proofs.YtgikkibiinanjaaDoor
