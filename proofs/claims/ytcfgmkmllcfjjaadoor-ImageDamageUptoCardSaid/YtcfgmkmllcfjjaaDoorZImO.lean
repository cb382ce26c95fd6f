import Derived.Test.YtcfgmkmllcfjjaaDoorZImN
set_option linter.unusedVariables false
set_option linter.unusedSimpArgs false
namespace Go.Proofs.YtcfgmkmllcfjjaaDoor
open Go.RowKit Go.Proofs.YtcfgmkmllcfjjaaDoorW.PrintWords Go.Proofs.YtcfgmkmllcfjjaaDoorW.PrintMore PImageForm
def encSeenL : Int → List S71 → List Int
  | _, [] => []
  | last, x :: xs => encSeen last x ++ encSeenL x.f0 xs
def lastL (last : Int) (xs : List S71) : Int := xs.foldl (fun _ x => x.f0) last
def badL (xs : List S71) : Bool := xs.any fun x => !(faultN x.f1 == 0)
def encSeens (xs : List S71) : List Int := puti xs.length ++ encSeenL 0 xs
theorem encSeenL_append (last : Int) (xs ys : List S71) : encSeenL last (xs ++ ys) = encSeenL last xs ++ encSeenL (lastL last xs) ys := by
  induction xs generalizing last with
  | nil => rfl
  | cons x xs ih => simp only [List.cons_append, encSeenL, ih, List.append_assoc]; rfl
theorem take_one {α : Type} (xs : List α) (k : Nat) (hk : k < xs.length) : xs.take (k + 1) = xs.take k ++ [xs[k]] := by
  rw [List.take_add_one, List.getElem?_eq_getElem hk]
  rfl
theorem encSeenL_take (xs : List S71) (k : Nat) (hk : k < xs.length) : encSeenL 0 (xs.take (k + 1)) = encSeenL 0 (xs.take k) ++ encSeen (lastL 0 (xs.take k)) xs[k] := by
  rw [take_one xs k hk, encSeenL_append]
  simp [encSeenL]
theorem lastL_take (xs : List S71) (k : Nat) (hk : k < xs.length) : lastL 0 (xs.take (k + 1)) = xs[k].f0 := by
  rw [take_one xs k hk, lastL, List.foldl_append]
  rfl
theorem badL_take (xs : List S71) (k : Nat) (hk : k < xs.length) : badL (xs.take (k + 1)) = (badL (xs.take k) || !(faultN xs[k].f1 == 0)) := by
  rw [take_one xs k hk, badL, List.any_append]
  simp [badL]
theorem encSeenL_le (xs : List S71) (k : Nat) : (encSeenL 0 (xs.take k)).length ≤ (encSeenL 0 xs).length := by
  conv => rhs; rw [← List.take_append_drop k xs, encSeenL_append]
  rw [List.length_append]
  omega
theorem encSeenL_ge (last : Int) (xs : List S71) : xs.length ≤ (encSeenL last xs).length := by
  induction xs generalizing last with
  | nil => simp
  | cons x xs ih =>
    have := ih x.f0
    have := puti_pos (sub64 x.f0 last)
    simp only [encSeenL, encSeen, List.length_cons, List.length_append]
    omega
def ESt (w0 w : World) (gw pb pl : Nat) (l : List Int) (bad : Bool) (last : Int) (W : World) : Prop := WAt W gw w0.heap.size l bad ∧ PBox W pb gw ∧ LBox W pl last ∧ Wr w0.heap.size gw w W
theorem seens_any {w0 ws w : World} {gw pb pl c : Nat} {l : List Int} {bad : Bool} {A : Option Addr} {xs : List S71} (hBs : Below w0.heap.size w0 ws) (hG : GW w0) (hW : ESt w0 ws gw pb pl l bad 0 w) (hpl : ws.heap.size ≤ pl)
    (hC : Kd.C k71 w0 A xs.length xs) (hc : xs.length ≤ c) (hv : ∀ x ∈ xs, ∀ y ∈ x.f1.f2, I64 y.f1) (hvl : ∀ x ∈ xs, x.f1.f2.length ≤ 9223372036854775807) (hl : (l ++ encSeens xs).length ≤ 10000000000000) :
    Calls Tryd.prog 52 #[.pointer (some ⟨gw, 0, none⟩), .slice A xs.length c, .func (.func 53) #[] #[.pointer (some ⟨pb, 0, none⟩), .pointer (some ⟨pl, 0, none⟩)]] w fun e w' => Wrote gw w0.heap.size (l ++ encSeens xs) (bad || badL xs) ws e w' := by
  have hcm : xs.length ≤ 9223372036854775807 := by
    have := encSeenL_ge 0 xs
    rw [encSeens, List.length_append, List.length_append] at hl
    omega
  have hl' : ∀ k, ((l ++ puti xs.length) ++ encSeenL 0 (xs.take k)).length ≤ 10000000000000 := fun k => by
    have := encSeenL_le xs k
    rw [encSeens, ← List.append_assoc, List.length_append] at hl
    rw [List.length_append]
    omega
  have hBW : ∀ W, Wr w0.heap.size gw ws W → Below w0.heap.size w0 W := fun W h => hBs.trans (h.below hBs.size)
  refine (putSeens_any (fun k W => ESt w0 ws gw pb pl ((l ++ puti xs.length) ++ encSeenL 0 (xs.take k)) (bad || badL (xs.take k)) (lastL 0 (xs.take k)) W) gw pb pl A c xs w hc hcm ?_ w0 (fun k W h => hBW W h.2.2.2) hC ?_).mono ?_
  · refine (num_hl hW.1 ⟨by omega, by omega⟩ (by have := hl' 0; simpa [encSeenL] using this)).mono ?_
    rintro e w' ⟨rfl, h1, h2⟩
    obtain ⟨k1, k2, k3, k4⟩ := hW
    exact ⟨rfl, by simpa [encSeenL, badL] using h1, k2.wr k1 h2, Wr.blk h2 k3 (k1.neq k3 (by decide)) (by decide), k4.trans h2⟩
  · intro k hk W hS A1 c1 hc1 hC1
    obtain ⟨k1, k2, k3, k4⟩ := hS
    have hs := hl' (k + 1)
    rw [encSeenL_take xs k hk, ← List.append_assoc] at hs ⊢
    rw [badL_take xs k hk, lastL_take xs k hk, ← Bool.or_assoc]
    have hb := below_new W (.cells #[.int .i64 (xs[k]).f0, .string (xs[k]).f1.f0, .int .i64 (xs[k]).f1.f1, .slice A1 (xs[k]).f1.f2.length c1, .bool (xs[k]).f2] 71)
    refine (wSeen_any hBs hG (k1.below hb) (k2.below hb) (blk_below k3 hb) (k4.trans (Wr.of_below hb)) hpl hC1 hc1 (hvl _ (List.getElem_mem hk)) (hv _ (List.getElem_mem hk)) hs).mono ?_
    rintro e w' ⟨rfl, h1, h2, h3, h4⟩
    exact ⟨rfl, h1, h2, h3, h4⟩
  · rintro e w' ⟨rfl, h1, h2, h3, h4⟩
    rw [List.take_length] at h1
    exact ⟨rfl, by rw [encSeens, ← List.append_assoc]; exact h1, h4⟩
set_option maxHeartbeats 1000000 in
theorem writeEvents_any {w0 w : World} {gw gi : Nat} {l : List Int} {bad : Bool} {m : Img} (hB : Below w0.heap.size w0 w) (hG : GW w0) (hW : WAt w gw w0.heap.size l bad) (hI : ImgAt w0 w gi m) (hv : ∀ x ∈ m.seens, ∀ y ∈ x.f1.f2, I64 y.f1) (hvl : ∀ x ∈ m.seens, x.f1.f2.length ≤ 9223372036854775807) (hl : (l ++ encSeens m.seens).length ≤ 10000000000000) :
    Calls Tryd.prog 28 #[.pointer (some ⟨gw, 0, none⟩), .pointer (some ⟨gi, 0, none⟩)] w fun e w' => Wrote gw w0.heap.size (l ++ encSeens m.seens) (bad || badL m.seens) w e w' := by
  obtain ⟨A4, c4, A5, c5, A6, c6, hb, _, _, ⟨hC, hc⟩⟩ := hI
  generalize hW1 : w.alloc (.cells #[.pointer (some ⟨gw, 0, none⟩)] 44) = W1
  have hb1 : Below w.heap.size w W1 := by rw [← hW1]; exact below_new w _
  have hs1 : W1.heap.size = w.heap.size + 1 := by rw [← hW1]; simp
  have hP : PBox W1 w.heap.size gw := by rw [← hW1]; exact blk_new w _
  generalize hW2 : W1.alloc (.cells #[.int .i64 0] 2) = W2
  have hb2 : Below W1.heap.size W1 W2 := by rw [← hW2]; exact below_new W1 _
  have hL : LBox W2 (w.heap.size + 1) 0 := by rw [← hW2, ← hs1]; exact blk_new W1 _
  have hP2 := hP.below hb2
  have hb12 := below_step hb1 hb2
  have c6' : W2.cell? ⟨gi, 5 + 1, none⟩ = some (.slice A6 m.seens.length c6) := (blk_cell (blk_below hb hb12) 6).trans rfl
  have p0 : W2.cell? ⟨w.heap.size, 0, none⟩ = some (.pointer (some ⟨gw, 0, none⟩)) := (blk_cell hP2 0).trans rfl
  have hmf : ∀ fn first cap w, (Instr.makeFunc fn first cap).run Tryd.prog w = .ok (.func fn first cap) w := fun _ _ _ _ => rfl
  have HN := Lib.hid (show ∀ W : World, Below W2.heap.size W2 W → Calls Tryd.prog 52 #[.pointer (some ⟨gw, 0, none⟩), .slice A6 m.seens.length c6, .func (.func 53) #[] #[.pointer (some ⟨w.heap.size, 0, none⟩), .pointer (some ⟨w.heap.size + 1, 0, none⟩)]] W fun e w' => Wrote gw w0.heap.size (l ++ encSeens m.seens) (bad || badL m.seens) w e w' from by
    intro W hBW
    have hbb := below_step hb12 hBW
    exact seens_any hB hG ⟨hW.below hbb, hP2.below hBW, blk_below hL hBW, Wr.of_below hbb⟩ (by omega) hC hc hv hvl hl)
  generalize hR : l ++ encSeens m.seens = R at *
  generalize hM : (bad || badL m.seens) = M at *
  clear hW hb hb1 hs1 hP hb2 hL hP2 hb12 hC hB hG hv hvl hl hR hM
  subst hW2
  subst hW1
  go_enter Tryd.func28, Tryd.ntmps28
  go_wp2_with fail
  go_region_law (first | (go_simp; go_at_call 52; refine (HN.out _ (by first | exact below_drew (Below.refl _ _) | exact Below.refl _ _)).mono ?_; rintro e w1 ⟨rfl, hA, hR⟩))
  all_goals
    go_wp2_with fail
    go_end0
    exact ⟨rfl, hA, hR⟩
end Go.Proofs.YtcfgmkmllcfjjaaDoor
