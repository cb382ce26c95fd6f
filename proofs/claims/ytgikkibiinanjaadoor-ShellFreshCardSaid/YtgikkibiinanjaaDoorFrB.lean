/- (*Book).fill: a list of words is written full of a mark, and kept. -/
import Derived.Test.YtgikkibiinanjaaDoorFrA
set_option linter.unusedVariables false
set_option linter.unusedSimpArgs false
namespace Go.Proofs.YtgikkibiinanjaaDoor
open Go.RowKit

/-- A Book in block G: its lists, its size, how many are written on. -/
def BookAt (w : World) (G base : Nat) (v : Value) (xs : List Value) (s a : Int) : Prop :=
  w.heap[G]? = some (.cells #[v, .int .i64 s, .int .i64 a] 26 (0, 0)) ∧ w.ownsRow base 22 1 v xs.length xs
theorem own_form {w : World} {base : Nat} {e : TypeId} {v : Value} {n : Nat} {xs : List Value} (h : w.ownsRow base e 1 v n xs) : ∃ A c, v = .slice A n c ∧ n ≤ c ∧ c ≤ 9223372036854775807 ∧ (0 < n → ∃ g, A = some ⟨g, 0, none⟩) := by
  rcases h.2 with ⟨rfl, rfl⟩ | ⟨g, cap, cur, rfl, hb, hg, hn, hm, hs, ht⟩
  · exact ⟨none, 0, rfl, by omega, by omega, fun h => by omega⟩
  · exact ⟨_, _, rfl, hn, by simp only [maxLen] at hm; omega, fun _ => ⟨g, rfl⟩⟩
theorem own_blk {w : World} {base : Nat} {e : TypeId} {v : Value} {n : Nat} {xs : List Value} (h : w.ownsRow base e 1 v n xs) : ∀ k, v.ownBlock = some k → ∃ cur, w.heap[k]? = some (.cells cur e (0, 0)) := by
  intro k hk
  rcases h.2 with ⟨rfl, _⟩ | ⟨g, cap, cur, rfl, hb, hg, _⟩
  · simp [Value.ownBlock] at hk
  · simp [Value.ownBlock] at hk
    subst hk
    exact ⟨cur, hg⟩
theorem own_only {w w' : World} {base : Nat} {e : TypeId} {v : Value} {n : Nat} {xs : List Value} {S : Nat → Prop} (h : w.ownsRow base e 1 v n xs) (ho : Only S w w') (hn : ∀ k, v.ownBlock = some k → ¬ S k) : w'.ownsRow base e 1 v n xs := by
  refine ⟨h.1, ?_⟩
  rcases h.2 with h2 | ⟨g, cap, cur, rfl, hb, hg, r⟩
  · exact .inl h2
  · exact .inr ⟨g, cap, cur, rfl, hb, ho.blk hg (hn g rfl), r⟩
/-- A block of one type is no block of another. -/
theorem ne_type {w : World} {g k : Nat} {a b : Array Value} {t u : TypeId} (h : w.heap[g]? = some (.cells a t (0, 0))) (h' : w.heap[k]? = some (.cells b u (0, 0))) (hn : t ≠ u) : g ≠ k := by
  rintro rfl
  rw [h] at h'
  injection h' with h'
  injection h' with _ h' _
  exact hn h'
theorem Rw.In.blk {r : Rw} {w : World} {f : Nat → Value} (h : r.In w f) : ∀ g, r.g = some g → ∃ cur, w.heap[g]? = some (.cells cur 9 (0, 0)) := by
  intro g hg
  obtain ⟨_, h⟩ := h
  rw [hg] at h
  obtain ⟨c, hb, _⟩ := h.2
  exact ⟨c, hb⟩
theorem Rw.In.cell {r : Rw} {w : World} {f : Nat → Value} (h : r.In w f) (k : Nat) (hk : k < r.cap) : ∃ g, r.g = some g ∧ w.cell? ⟨g, k, none⟩ = some (f k) ∧ w.frozen? ⟨g, k, none⟩ = false := by
  obtain ⟨h1, h⟩ := h
  rcases hg : r.g with _ | g
  · rw [hg] at h; simp only at h; omega
  · rw [hg] at h; exact ⟨g, rfl, h.2.cell hk, h.2.frozen k⟩
theorem Rw.In.set {r : Rw} {w : World} {f : Nat → Value} (h : r.In w f) (g k : Nat) (hg : r.g = some g) (u : Value) : r.In (w.setCell ⟨g, k, none⟩ u) (fun j => if j = k then u else f j) := by
  obtain ⟨h1, h⟩ := h
  rw [hg] at h
  refine ⟨h1, ?_⟩
  rw [hg]
  exact ⟨h.1, h.2.set k u⟩

theorem info22 : (Tryd.prog.info? 22).map (fun i => (i.zero, i.size, i.bytes)) = some (some (.slice none 0 0), 1, 24) := by kernel_rfl
section
variable {P : Program} {ops : Array Oper} {rest : List Oper} {o : Oper} {a : Act} {Q : Exit → Act → World → Prop}
/-- append(v, x, y): two lists are appended to a row of lists of the call's own. -/
theorem app_two {W : World} (base H : Nat) (hH : W.heap.size = H) (hgd : o.guard = none) (s x : Operand) (ho : o.op = .call { callee := .builtin .append, args := #[s, x], argTypes := #[24, 24] })
    (v : Value) (xs : List Value) (t u : Value) (ht : t.oneCell' = true) (hu : u.oneCell' = true) (hs : a.eval s = v) (hx : a.eval x = .slice (some ⟨H, 0, none⟩) 2 2)
    (HO : W.ownsRow base 22 1 v xs.length xs) (hbase : base ≤ W.heap.size) (hl : (xs.length + 2) * 24 ≤ 140737488355328)
    (h : ∀ v1 w1, Hid (w1.ownsRow base 22 1 v1 (xs ++ [t, u]).length (xs ++ [t, u])) → Hid (Only (fun k => v.ownBlock = some k) W w1) → Hid (v1.ownBlock = v.ownBlock ∨ ∃ k, v1.ownBlock = some k ∧ W.heap.size ≤ k) → wpList Tryd.prog ops Q rest (a.put o.dst v1) w1) :
    wpList Tryd.prog ops Q (o :: rest) a (W.alloc (.cells #[t, u] 22)) := by
  subst hH
  obtain ⟨i0, hi, hz0, hz1, hz2⟩ := info_parts info22
  refine wpList_append_own_at (W.alloc (.cells #[t, u] 22)) hgd s x 24 ho base 22 i0 (.slice none 0 0) 1 24 Tryd.underlying24 hi hz0 hz1 hz2 rfl (by omega) v xs.length xs hs (HO.alloc _) ⟨W.heap.size, 0, none⟩ 2 2 [t, u] hx rfl
    ?c1 ?c2 (by simp only [maxLen]; omega) hl (by simp; omega) ?_
  case c1 =>
    intro j z hj
    have e : (⟨W.heap.size, 0, none⟩ : Addr).add j = ⟨W.heap.size, j, none⟩ := by unfold Addr.add; split <;> simp_all
    rw [e, cellB (heap_alloc_new W _)]
    match j, hj with
    | 0, hj => simpa using hj
    | 1, hj => simpa using hj
  case c2 => intro z hz; simp at hz; rcases hz with rfl | rfl <;> assumption
  intro v1 w1 hown hg _ hat
  refine h v1 w1 (Lib.hid (by simpa using hown)) (Lib.hid ((Only.alloc _).same (Only.grown hg (fun k hk => hk)))) (Lib.hid ?_)
  rcases hat with h1 | h1
  · exact .inl h1
  · exact .inr ⟨_, h1, by simp⟩
end

def FillPost (base G : Nat) (v : Value) (xs : List Value) (s a : Int) (r : Rw) (w : World) (e : Ending) (w' : World) : Prop :=
  e = .returned (.tuple #[]) ∧ ∃ f' v' xs', Only (fun k => k = G ∨ v.ownBlock = some k ∨ r.g = some k) w w' ∧ BookAt w' G base v' xs' (s + 1000 + 40 * (r.n : Int)) a ∧ r.In w' f' ∧
      (∀ j, j < r.n → f' j = mark (xs.length / 2)) ∧ (if s + 1000 + 40 * (r.n : Int) ≤ 33554432 then xs' = xs ++ [r.v r.n, .slice none 0 0] ∧ (v'.ownBlock = v.ownBlock ∨ ∃ k, v'.ownBlock = some k ∧ w.heap.size ≤ k) else xs' = xs ∧ v' = v)

set_option maxHeartbeats 2000000 in
theorem fill_any (base G : Nat) (v : Value) (xs : List Value) (s a : Int) (r : Rw) (f : Nat → Value) (w : World) (hB : base ≤ w.heap.size) (ht : Tab base w) (hbk : BookAt w G base v xs s a)
    (hr : r.In w f) (hx : xs.length ≤ 1000000000) (hs0 : 0 ≤ s) (hs1 : s + 1000 + 40 * (r.n : Int) ≤ 9000000000000000000) :
    Calls Tryd.prog 9 #[.pointer (some ⟨G, 0, none⟩), r.v r.n] w (FillPost base G v xs s a r w) := by
  obtain ⟨hG0, hO⟩ := hbk
  obtain ⟨A, c, rfl, hc1, hc2, _⟩ := own_form hO
  have hcap := hr.capmax
  have hrl := hr.le
  obtain ⟨R, hR, hRg⟩ := Rw.v_slice r w f hr r.n hrl
  rw [hR]
  have c0 := (cellB hG0 0).trans rfl
  obtain ⟨kb, hkb⟩ : ∃ kb, mark (xs.length / 2) = .string kb := ⟨_, rfl⟩
  have HW : Hid (Calls Tryd.prog 14 #[.int .i64 ((xs.length : Int) / 2)] w fun e w' => e = .returned (.string kb) ∧ Below w.heap.size w w') := by
    have e : ((xs.length : Int) / 2) = ((xs.length / 2 : Nat) : Int) := by omega
    rw [e, ← hkb]
    exact Lib.hid (word_any (xs.length / 2) (by omega) base w hB ht)
  have HG0 := Lib.hid hG0
  have HO := Lib.hid hO
  have HR := Lib.hid hr
  have HRG := Lib.hid hRg
  have HRE := Lib.hid hR
  have HMK := Lib.hid hkb
  clear hG0 hO hr hRg hkb hR
  go_enter Tryd.func9, Tryd.ntmps9
  go_wp2_with fail
  refine HW.out.mono ?_
  rintro e W1 ⟨rfl, hb1⟩
  have hb1' := hb1.mono hB
  have HO1 := Lib.hid (own_only (S := fun _ => False) HO.out (Only.of_below hb1) (fun _ _ h => h))
  have HG1 := Lib.hid ((Only.of_below (S := fun _ => False) hb1).blk HG0.out (fun h => h))
  have HR1 := Lib.hid (HR.out.only (S := fun _ => False) (Only.of_below hb1) (fun _ _ h => h))
  have hsz1 := hb1.size
  clear c0
  go_wp2_with fail
  go_loopw [5] (fun t5 wr => ∃ k : Nat, k ≤ r.n ∧ t5 = .int .i64 k ∧ ∃ f', Hid (r.In wr f') ∧ Hid (∀ j, j < k → f' j = .string kb) ∧ Hid (Only (fun k => r.g = some k) W1 wr)) (fun t5 _ => r.n - (intOf t5).toNat)
  case atStart => exact ⟨0, by omega, rfl, f, HR1, Lib.hid (fun j h => by omega), Lib.hid (Only.refl _ _)⟩
  case round =>
    obtain ⟨k, hk, rfl, f', hIn, hF, hOn⟩ := hrel
    generalize wr = w2 at *
    by_cases hlt : k < r.n
    · have i1 : (0 : Int) ≤ (k : Int) := by omega
      have i2 : (k : Int) < r.n := by omega
      obtain ⟨g, hg, e1, e2⟩ := hIn.out.cell k (by omega)
      obtain ⟨g', hg', rfl⟩ := HRG.out (by omega)
      obtain rfl : g = g' := by rw [hg] at hg'; exact Option.some.inj hg'
      have HGG := Lib.hid hg
      clear hg hg'
      go_wp2_with fail
      go_roundw
      case rel => exact ⟨k + 1, by omega, by go_num, _, Lib.hid (hIn.out.set g k HGG.out (.string kb)), Lib.hid (fun j hj => by
        show (if j = k then .string kb else f' j) = .string kb
        by_cases h : j = k
        · rw [if_pos h]
        · rw [if_neg h]; exact hF.out j (by omega)), Lib.hid (hOn.out.same (Only.setCell _ _ HGG.out))⟩
      case measure => simp [intOf]; omega
    · obtain rfl : k = r.n := by omega
      have hne : ∀ b, r.g = some b → b ≠ G := fun b hb => by
        obtain ⟨cur, hc⟩ := HR1.out.blk b hb
        exact ne_type hc HG1.out (by decide)
      have HG2 := Lib.hid (hOn.out.blk HG1.out (fun h => hne _ h rfl))
      have HO2 := Lib.hid (own_only HO1.out hOn.out (fun b hb h => by
        obtain ⟨cur, hc⟩ := HR1.out.blk b h
        obtain ⟨cur', hc'⟩ := own_blk HO1.out b hb
        exact ne_type hc hc' (by decide) rfl))
      have hsz2 := hOn.out.size
      have c0 := (cellB HG2.out 0).trans rfl
      have c1 := (cellB HG2.out 1).trans rfl
      have z1 := frozenB HG2.out 1
      have z0 := frozenB HG2.out 0
      have hw1 : IntKind.i64.wrap (s + 1000) = s + 1000 := IntWalk.i64_in _ (by omega)
      have hw2 : IntKind.i64.wrap (40 * (r.n : Int)) = 40 * (r.n : Int) := IntWalk.i64_in _ (by omega)
      have hw3 : IntKind.i64.wrap (s + 1000 + 40 * (r.n : Int)) = s + 1000 + 40 * (r.n : Int) := IntWalk.i64_in _ (by omega)
      by_cases hle : s + 1000 + 40 * (r.n : Int) ≤ 33554432
      · have d1 : decide (s + 1000 + 40 * (r.n : Int) ≤ 33554432) = true := by simpa using hle
        have HLE := Lib.hid hle
        clear hle
        have HO3 := Lib.hid (own_only HO2.out (Only.setCell (S := fun k => k = G) ⟨G, 1, none⟩ (.int .i64 (s + 1000 + 40 * (r.n : Int))) rfl) (fun b hb h => by
          subst h
          obtain ⟨cur', hc'⟩ := own_blk HO2.out _ hb
          exact ne_type hc' HG2.out (by decide) rfl))
        go_wp2_with (at_builtin; go_must (refine app_two (W := w2.setCell ⟨G, 1, none⟩ (.int .i64 (s + 1000 + 40 * (r.n : Int)))) base w2.heap.size (by simp) (by rfl) _ _ (by rfl) _ xs _ _ (by rfl) (by rfl) (by rfl) (by rfl) HO3.out (by simp; omega) (by omega) ?_))
        intro v1 w3 HO4 hOn4 hat
        obtain ⟨A4, c4, rfl, _, _, _⟩ := own_form HO4.out
        have HG3 := Lib.hid (setB HG2.out 1 (.int .i64 (s + 1000 + 40 * (r.n : Int))) rfl)
        have hneG : ∀ b, (Value.slice A xs.length c).ownBlock = some b → b ≠ G := fun b hb => by
          obtain ⟨cur', hc'⟩ := own_blk HO2.out _ hb
          exact ne_type hc' HG2.out (by decide)
        have HG4 := Lib.hid (hOn4.out.blk HG3.out (fun h => hneG _ h rfl))
        have z3 := frozenB HG4.out 0
        have c3 := (cellB HG4.out 0).trans rfl
        have HNE := Lib.hid hneG
        have HNG := Lib.hid hne
        clear hneG hne
        go_wp2_with fail
        go_end0
        have hr3 := (hIn.out.only (Only.setCell (S := fun k => k = G) ⟨G, 1, none⟩ (.int .i64 (s + 1000 + 40 * (r.n : Int))) rfl) HNG.out)
        have hr4 := hr3.only hOn4.out (fun b hb h => by
          obtain ⟨cur, hc⟩ := hr3.blk b hb
          obtain ⟨cur', hc'⟩ := own_blk HO3.out _ h
          exact ne_type hc hc' (by decide) rfl)
        have HO5 : w3.ownsRow base 22 1 (.slice A4 (xs.length + 2) c4) (xs ++ [Value.slice R r.n r.cap, Value.slice none 0 0]).length (xs ++ [Value.slice R r.n r.cap, Value.slice none 0 0]) := by rw [show (xs ++ [Value.slice R r.n r.cap, Value.slice none 0 0]).length = xs.length + 2 by simp]; exact HO4.out
        refine ⟨rfl, _, _, _, ?_, ⟨setB HG4.out 0 _ rfl, own_only HO5 (Only.setCell (S := fun k => k = G) _ _ rfl) ?_⟩, hr4.only (Only.setCell (S := fun k => k = G) _ _ rfl) HNG.out, fun j hj => by rw [HMK.out]; exact hF.out j hj, ?_⟩
        · refine Only.same ?_ (Only.setCell ⟨G, 0, none⟩ _ (Or.inl rfl))
          refine Only.same ?_ (hOn4.out.mono (fun b _ h => Or.inr (Or.inl h)))
          refine Only.same ?_ (Only.setCell ⟨G, 1, none⟩ _ (Or.inl rfl))
          exact (Only.of_below hb1).same (hOn.out.mono (fun b _ h => Or.inr (Or.inr h)))
        · intro b hb h
          subst h
          obtain ⟨cur', hc'⟩ := own_blk HO5 _ hb
          exact ne_type hc' HG4.out (by decide) rfl
        · rw [if_pos HLE.out, HRE.out]
          refine ⟨rfl, ?_⟩
          rcases hat.out with h | ⟨k, h, hk⟩
          · exact .inl h
          · exact .inr ⟨k, h, by first | omega | (simp at hk; omega)⟩
      · have d1 : decide (s + 1000 + 40 * (r.n : Int) ≤ 33554432) = false := by simpa using hle
        have HLE := Lib.hid hle
        clear hle
        go_wp2_with fail
        go_end0
        refine ⟨rfl, _, _, _, ?_, ⟨setB HG2.out 1 _ rfl, own_only HO2.out (Only.setCell (S := fun k => k = G) _ _ rfl) ?_⟩, hIn.out.only (Only.setCell (S := fun k => k = G) _ _ rfl) hne, fun j hj => by rw [HMK.out]; exact hF.out j hj, by rw [if_neg (by have := HLE.out; omega)]; exact ⟨rfl, rfl⟩⟩
        · refine (((Only.of_below hb1).same (hOn.out.mono (fun b _ h => Or.inr (Or.inr h)))).same (Only.setCell _ _ (Or.inl rfl)))
        · intro b hb h
          subst h
          obtain ⟨cur', hc'⟩ := own_blk HO2.out _ hb
          exact ne_type hc' HG2.out (by decide) rfl
end Go.Proofs.YtgikkibiinanjaaDoor
