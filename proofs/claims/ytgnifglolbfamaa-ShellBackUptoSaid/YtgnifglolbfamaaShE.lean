/- The reference's words: digit, quoted. -/
import Derived.Test.YtgnifglolbfamaaShD
import Derived.Deep.RegionHeld3
import Derived.Deep.AppendLies
set_option linter.unusedVariables false
set_option linter.unusedSimpArgs false
namespace Go.Proofs.Ytgnifglolbfamaa
open Go.RowKit

theorem hexv_found (c : UInt8) (k : Nat) (hk : k < 16) (h : (hexd k).toNat = c.toNat) : hexv c = k := by
  have : ∀ k : Fin 16, hexv (hexd k.1) = k.1 := by decide
  have e : hexd k = c := UInt8.toNat_inj.1 h
  rw [← e]; exact this ⟨k, hk⟩
theorem hexv_none (c : UInt8) (h : ∀ k, k < 16 → (hexd k).toNat ≠ c.toNat) : hexv c = -1 := by
  have : ∀ n : Fin 256, (∀ k : Fin 16, (hexd k.1).toNat ≠ n.1) → hexv (UInt8.ofNat n.1) = -1 := by decide +kernel
  have := this ⟨c.toNat, c.toNat_lt⟩ (fun k => h k.1 k.2)
  simpa using this

set_option maxHeartbeats 400000 in
theorem digit_any (c : UInt8) (w : World) : Calls Try.prog 66 #[.int .u8 (c.toNat : Int)] w fun e w' => e = .returned (.int .i64 (hexv c)) ∧ w' = w := by
  go_enter Try.func66, Try.ntmps66
  go_wp2_with fail
  go_loop [4] (fun t4 => ∃ k : Nat, k ≤ 16 ∧ t4 = .int .i64 k ∧ Hid (∀ j, j < k → (hexd j).toNat ≠ c.toNat)) (fun t4 => 16 - (intOf t4).toNat)
  case atStart => exact ⟨0, by omega, rfl, Lib.hid (by omega)⟩
  case round =>
    obtain ⟨k, hk, rfl, hn⟩ := hrel
    by_cases hlt : k < 16
    · have hlt' : k < (⟨#[48, 49, 50, 51, 52, 53, 54, 55, 56, 57, 97, 98, 99, 100, 101, 102]⟩ : ByteArray).size := hlt
      have hg := hexd_get k hlt'
      by_cases he : (hexd k).toNat = c.toNat
      · have d : (((hexd k).toNat : Int) == c.toNat) = true := by simp; omega
        have HE := Lib.hid he
        clear he
        go_wp2_with fail
        go_ret
        exact ⟨by rw [hexv_found c k hlt HE.out]; rfl, rfl⟩
      · have d : (((hexd k).toNat : Int) == c.toNat) = false := by simp; omega
        have HE := Lib.hid he
        clear he
        go_wp2_with fail
        go_round
        case rel => exact ⟨k + 1, by omega, by go_num, Lib.hid (fun j hj => if h : j = k then h ▸ HE.out else hn.out j (by omega))⟩
        case measure => simp [intOf]; omega
    · obtain rfl : k = 16 := by omega
      go_wp2_with fail
      go_ret
      exact ⟨by rw [hexv_none c hn.out]; rfl, rfl⟩

section
variable {P : Program} {ops : Array Oper} {rest : List Oper} {o : Oper} {a : Act} {Q : Exit → Act → World → Prop}
/-- The same at a step of a region that draws its order. -/
theorem step_bytes {w0 W : World} {K : Act → World → Prop} {E : Prop} (base : Nat) (hgd : o.guard = none) (s x : Operand) (ho : o.op = .call { callee := .builtin .append, args := #[s, x], argTypes := #[82, 82] })
    (v : Value) (xs : List Value) (ys : Array Value) (hys : ∀ u ∈ ys.toList, u.oneCell' = true) (hpos : 0 < ys.size) (hs : a.eval s = v) (hx : a.eval x = .slice (some ⟨W.heap.size, 0, none⟩) ys.size ys.size)
    (HO : W.ownsRow base 5 1 v xs.length xs) (HB : Below base w0 W) (hbase : base ≤ W.heap.size) (hl : xs.length + ys.size ≤ 140737488355328)
    (h : ∀ v1 w1, Hid (w1.ownsRow base 5 1 v1 (xs.length + ys.size) (xs ++ ys.toList)) → Below base w0 w1 → K (a.put o.dst v1) w1) :
    if Region.wanted o (yielded ops a.tmps) = true then Oper.wp Try.prog o a (W.alloc (.cells ys 5)).drew K Q else E := by
  obtain ⟨i0, hi, hz0, hz1, hz2⟩ := info_parts infoByte
  refine step_append_lies _ hgd s x 82 ho base 5 i0 (.int .u8 0) 1 1 Try.underlying82 hi hz0 hz1 hz2 rfl (by omega) v xs.length xs hs (HO.alloc _).drew ⟨W.heap.size, 0, none⟩ ys.size ys.size ys.toList hx (by simp)
    ?c1 hys hpos (by simp only [maxLen]; omega) (by omega) (by simp; omega) _ rfl ?_
  case c1 => exact World.news_of_block (B := W.heap.size) (t := 5) (fr := (0, 0)) (heap_alloc_new W _)
  intro g cap w1 hown hg _ _
  refine h _ w1 (Lib.hid hown) (((HB.alloc hbase _).drew).grown hg (by simp; omega) ?_)
  intro k hk
  exact (HO.lt k hk).1
/-- append(b, ..): bytes are appended to a row of the call's own. -/
theorem app_bytes {w0 W : World} (base : Nat) (hgd : o.guard = none) (s x : Operand) (ho : o.op = .call { callee := .builtin .append, args := #[s, x], argTypes := #[82, 82] })
    (v : Value) (xs : List Value) (ys : Array Value) (hys : ∀ u ∈ ys.toList, u.oneCell' = true) (hs : a.eval s = v) (hx : a.eval x = .slice (some ⟨W.heap.size, 0, none⟩) ys.size ys.size)
    (HO : W.ownsRow base 5 1 v xs.length xs) (HB : Below base w0 W) (hbase : base ≤ W.heap.size) (hl : xs.length + ys.size ≤ 140737488355328)
    (h : ∀ v1 w1, Hid (w1.ownsRow base 5 1 v1 (xs.length + ys.size) (xs ++ ys.toList)) → Below base w0 w1 → wpList Try.prog ops Q rest (a.put o.dst v1) w1) :
    wpList Try.prog ops Q (o :: rest) a (W.alloc (.cells ys 5)) := by
  obtain ⟨i0, hi, hz0, hz1, hz2⟩ := info_parts infoByte
  refine wpList_append_own (W.alloc (.cells ys 5)) hgd s x 82 ho base 5 i0 (.int .u8 0) 1 1 Try.underlying82 hi hz0 hz1 hz2 rfl (by omega) v xs.length xs hs (HO.alloc _) ⟨W.heap.size, 0, none⟩ ys.size ys.size ys.toList hx (by simp)
    ?c1 hys (by simp only [maxLen]; omega) (by omega) (by simp; omega) ?_
  case c1 =>
    intro j u hj
    have hc := cell_of_row (W.alloc (.cells ys 5)) W.heap.size j ys 5 (0, 0) (heap_alloc_new W _)
    have e : (⟨W.heap.size, 0, none⟩ : Addr).add j = ⟨W.heap.size, j, none⟩ := by unfold Addr.add; split <;> simp_all
    rw [e, hc]
    simpa using hj
  intro v1 w1 hown hg _
  refine h v1 w1 (Lib.hid hown) ((HB.alloc hbase _).grown hg (by simp; omega) ?_)
  intro k hk
  exact (HO.lt k hk).1
end

theorem strOf_cells (acc : List UInt8) : strOfNums (acc.map fun b => (b.toNat : Int)) = ⟨acc.toArray⟩ := by
  unfold strOfNums
  congr 2
  rw [List.map_map]
  conv => rhs; rw [← List.map_id acc]
  exact List.map_congr_left (fun b _ => by simp)
theorem conv_own {W : World} {base : Nat} {v : Value} {acc : List UInt8} (h : W.ownsRow base 5 1 v acc.length (Lib.byteCells acc)) : (convert 82 9 v).run Try.prog W = .ok (.string ⟨acc.toArray⟩) W := by
  rw [← strOf_cells]
  rcases h.2 with ⟨rfl, h0⟩ | ⟨g, cap, cur, rfl, _⟩
  · obtain rfl : acc = [] := List.eq_nil_of_length_eq_zero h0
    exact run_convert_bytes_nil W 82 5 Try.underlying82 Try.underlying5 0 0 9 Try.underlying9
  · refine run_convert_bytes_arg W 82 5 Try.underlying82 Try.underlying5 g 0 acc.length cap _ (by simp) (fun i hi => ?_) 9 Try.underlying9
    have hc := h.cells (g := g) rfl i (.int .u8 ((acc.map fun b => (b.toNat : Int)).getD i 0)) (by simp [Lib.byteCells, List.getElem?_eq_getElem hi])
    have ha : (⟨g, 0, none⟩ : Addr).add i = ⟨g, 0 + i, none⟩ := by unfold Addr.add; split <;> simp_all
    rwa [ha] at hc

end Go.Proofs.Ytgnifglolbfamaa
