/- Texts of the claim, merged in build order: RG. -/
import Derived.Test.YtgnifglolbfamaaZAH
import Derived.SizedLaws
/- How a query that is handed in reads, its lists told as slices, and what its components weigh. -/
set_option linter.unusedVariables false
set_option linter.unusedSimpArgs false
namespace Go.Proofs.Ytgnifglolbfamaa
open Go.RowKit Go.Proofs.YtgnifglolbfamaaW.PrintWords
section
variable {H : Type} {enc : TypeId × Value → H} {w : World} {base : Nat} {spare : Nat → Bool} {held : Bool}

theorem slice_any {t e : TypeId} {fuel : Nat} {v : Value} {x : DataW H × List MemPlace} (ht : Try.prog.underlying t = some (.slice e)) (h : DataW.trod enc Try.prog w base spare held fuel t [v] = some x) :
    ∃ A n c, v = .slice A n c ∧ n ≤ c ∧ ∀ B, (x.1.weights Try.prog t).all (· ≤ B) = true → n * Try.prog.bytesOf e ≤ B := by
  rcases DataW.trod_slice ht h with ⟨e1, _⟩ | ⟨a, len, cap, elems, rest, n, rfl, e1, rfl, _, hlc, _, hl, _⟩
  · injection e1 with e1
    exact ⟨none, 0, 0, e1, Nat.le_refl _, fun B _ => by omega⟩
  · injection e1 with e1
    refine ⟨some a, len, cap, e1, hlc, fun B hB => ?_⟩
    have h1 : ((elems.map (·.1)).length + (rest.map (·.1)).length) * Try.prog.bytesOf e ∈ (DataW.slice (elems.map (·.1)) (rest.map (·.1))).weights Try.prog t := by simp only [DataW.weights, ht, List.mem_cons, true_or]
    have h2 := List.all_eq_true.1 hB _ h1
    simp only [decide_eq_true_eq, List.length_map] at h2
    refine Nat.le_trans (Nat.mul_le_mul_right _ ?_) h2
    omega

theorem query_open2 {fuel : Nat} {cs : List Value} {x : DataW H × List MemPlace} (h : DataW.trod enc Try.prog w base spare held fuel 27 cs = some x) :
    ∃ (A : Option Addr) (comps : List Cp) (c : Nat) (q1 : ByteArray) (q2 : Int) (A3 : Option Addr) (n3 c3 : Nat) (AW : Option Addr) (ws : List Ex) (cw : Nat) (q5 : Int) (q6 : ByteArray) (AI : Option Addr) (its : List It) (ci : Nat),
      cs = [.slice A comps.length c, .string q1, .int .i64 q2, .slice A3 n3 c3, .slice AW ws.length cw, .int .i64 q5, .string q6, .slice AI its.length ci] ∧ comps.length ≤ c ∧ kCp.C w A comps.length comps ∧ (∀ x ∈ comps, x.f3.size ≤ maxLen) ∧
      kEx.C w AW ws.length ws ∧ (∀ x ∈ ws, NmX x) ∧ kIt.C w AI its.length its ∧ ws.length ≤ cw ∧ ∀ B, (x.1.weights Try.prog 27).all (· ≤ B) = true → comps.length * 40 ≤ B := by
  obtain ⟨A, comps, c, q1, q2, v3, AW, ws, cw, q5, q6, AI, its, ci, rfl, h3, hc0, hC0, hS0, hC4, hS4, hC7⟩ := query_open h
  obtain ⟨xs, n, rfl, hx, hlen, hl, hf⟩ := DataW.trod_struct Try.underlying27 h
  obtain ⟨y3, g3'⟩ := field_open hl hf 3 _ rfl
  obtain ⟨y4, g4'⟩ := field_open hl hf 4 _ rfl
  have g0' := hf 0 _ rfl
  have hxl : 0 < xs.length := by rw [hl]; decide
  rw [List.getElem?_eq_getElem hxl] at g0'
  have g0 : DataW.trod enc Try.prog w base spare held n 22 [.slice A comps.length c] = some xs[0] := (congrArg (DataW.trod enc Try.prog w base spare held n 22) (show [.slice A comps.length c] = (List.drop 0 [.slice A comps.length c, .string q1, .int .i64 q2, v3, .slice AW ws.length cw, .int .i64 q5, .string q6, .slice AI its.length ci]).take (Try.prog.cellsOf 22) by rw [c22]; rfl)).trans g0'
  have g3 : DataW.trod enc Try.prog w base spare held n 23 [v3] = some y3 := (congrArg (DataW.trod enc Try.prog w base spare held n 23) (show [v3] = (List.drop 3 [.slice A comps.length c, .string q1, .int .i64 q2, v3, .slice AW ws.length cw, .int .i64 q5, .string q6, .slice AI its.length ci]).take (Try.prog.cellsOf 23) by rw [c23]; rfl)).trans g3'
  have g4 : DataW.trod enc Try.prog w base spare held n 24 [.slice AW ws.length cw] = some y4 := (congrArg (DataW.trod enc Try.prog w base spare held n 24) (show [.slice AW ws.length cw] = (List.drop 4 [.slice A comps.length c, .string q1, .int .i64 q2, v3, .slice AW ws.length cw, .int .i64 q5, .string q6, .slice AI its.length ci]).take (Try.prog.cellsOf 24) by rw [c24]; rfl)).trans g4'
  obtain ⟨A3, n3, c3, rfl, _, _⟩ := slice_any Try.underlying23 g3
  obtain ⟨_, _, _, e4, hcw, _⟩ := slice_any Try.underlying24 g4
  obtain ⟨_, _, _, e0, _, hw0⟩ := slice_any Try.underlying22 g0
  injection e4 with _ e4b e4c
  injection e0 with _ e0b _
  subst e4b e4c e0b
  refine ⟨A, comps, c, q1, q2, A3, n3, c3, AW, ws, cw, q5, q6, AI, its, ci, rfl, hc0, hC0, hS0, hC4, hS4, hC7, hcw, fun B hB => ?_⟩
  have hb : Try.prog.bytesOf 46 = 40 := by kernel_rfl
  rw [← hb]
  refine hw0 B (List.all_eq_true.2 (fun k hk => List.all_eq_true.1 hB k ?_))
  rw [hx]
  simp only [DataW.weights, Try.underlying27]
  refine DataW.weights_mem_each (j := 0) (t := 22) (d := xs[0].1) rfl ?_ k hk
  rw [List.getElem?_map, List.getElem?_eq_getElem hxl]
  rfl
end
end Go.Proofs.Ytgnifglolbfamaa
