/- Texts of the claim, merged in build order: RB, QU, QW, QE. -/
import Derived.Test.YtgnifglolbfamaaZAS
import Derived.Test.YtgnifglolbfamaaZAP
import Derived.Test.YtgnifglolbfamaaZAG
import Derived.StillTailTactics
/- Shelves.answer on empty answers; what two layouts ask of it. -/
set_option linter.unusedVariables false
set_option linter.unusedSimpArgs false
namespace Go.Proofs.Ytgnifglolbfamaa
open Go.RowKit Go.Proofs.YtgnifglolbfamaaW.PrintWords

def nilH : HX := (none, 0, [])
def nilRE : RE := ⟨none, 0, 0⟩
set_option maxHeartbeats 16000000 in
set_option maxRecDepth 100000 in
theorem answer_nil (G H B0 : Nat) (es ss ns : List RE) (w : World) (hS : ShOk w G H B0 es ss ns) (hnE : (gs es).Nodup) (hlE : es.length ≤ 999999999) (hlS : ss.length ≤ 1000000) :
    Calls Try.prog 20 #[.pointer (some ⟨H, 0, none⟩), .pointer (some ⟨G, 0, none⟩), .slice none 0 0, .slice none 0 0] w (AnsPost [] G H B0 (es ++ growH nilH) (ss ++ [nilRE]) ns w) := by
  have hst0 : AnsSt [] G H B0 w es ss ns w := ⟨hS, (fun E hE => by cases hE), Only.refl _ _⟩
  have hg : gs (es ++ growH nilH) = gs es := by unfold growH nilH gs; simp [reH]
  have hc0 := hst0.each (by simp [keys]) nilH (by simp [nilH, exNL]) ⟨fun _ => ⟨rfl, rfl⟩, fun k hk => by cases hk⟩ (fun E hE => by cases hE) (by simp [keys, entH, nilH, entX]) (fun b hb => by cases hb) (by rw [hg]; exact hnE) (by rw [List.length_append]; have : (growH nilH).length = 1 := rfl; omega)
  have hcv : svT nilH = .slice none 0 0 := rfl
  rw [hcv] at hc0
  have HC0 := Lib.hid hc0
  clear hc0 hS hst0 hcv hg
  go_enter Try.func20, Try.ntmps20
  go_wp2_with fail
  refine HC0.out.mono ?_
  rintro e W1 ⟨rfl, hst1⟩
  have HST1 := Lib.hid hst1
  clear hst1 HC0
  go_wp2_with fail
  go_loopw [8] (fun t8 wr => t8 = .int .i64 0 ∧ Hid (wr = W1)) (fun _ _ => 0)
  case atStart => exact ⟨rfl, Lib.hid rfl⟩
  case round =>
    obtain ⟨rfl, hwr0⟩ := hrel
    have hwr1 := hwr0.out.symm
    clear hwr0
    subst hwr1
    have hst6 := HST1.out
    have HST6 := Lib.hid hst6
    obtain ⟨vS, vN, vF, vA, hIn⟩ := hst6.sh
    obtain ⟨nn, hnn⟩ : ∃ nn, nn = ss.length := ⟨_, rfl⟩
    have hnb : nn ≤ 1000000 := by rw [hnn]; exact hlS
    have hrN := hIn.at_.hS
    have hrA := hIn.at_.hF
    rw [← hnn] at hrN hrA
    obtain ⟨A1, c1, rfl, ha1, ha2, -, -⟩ := own_shape hrN
    obtain ⟨A2, c2, rfl, hb1, hb2, -, -⟩ := own_shape hrA
    have HIN := Lib.hid hIn
    have HNN := Lib.hid hnn
    have HOL := Lib.hid hrN
    have HOF := Lib.hid hrA
    have HH6 := Lib.hid hIn.at_.hH
    clear hIn hnn hrN hrA hst6
    go_wp2_with fail
    go_loopw [13, 14] (fun t13 t14 wr2 => t13 = .slice none 0 0 ∧ t14 = .int .i64 0 ∧ Hid (wr2 = W1)) (fun _ _ _ => 0)
    case atStart => exact ⟨rfl, rfl, Lib.hid rfl⟩
    case round =>
      obtain ⟨rfl, rfl, hwr⟩ := hrel
      have hwr2 := hwr.out.symm
      clear hwr
      subst hwr2
      have f0 := (blk_cell HH6.out 0).trans rfl
      have hl1 : (nn + 1) * 24 ≤ 140737488355328 := by omega
      have hl2 : (nn + 1) * 8 ≤ 140737488355328 := by omega
      go_wp2_with (at_builtin; go_must (refine app_one (W := W1) W1.heap.size (by rfl) (by rfl) _ _ 63 52 _ 24 (by rfl) Try.underlying63 info63 (by rfl) (by decide) A1 nn c1 _ (.slice none 0 0) HOL.out (by rfl) (by rfl) (by rfl) hl1 ?_))
      intro A1' c1' w7 hO7 hOn7 hB7
      have HG7 := Lib.hid (hOn7.out.blk HH6.out (fun hk => absurd (two_types (own_typed HOL.out H hk) ⟨_, HH6.out⟩) (by decide)))
      clear f0
      have y0 := (blk_cell HG7.out 0).trans rfl
      have y2 := (blk_cell HG7.out 2).trans rfl
      have z0 := blk_frozen HG7.out 0
      have hW7 : (w7.setCell ⟨H, 0, none⟩ (.slice A1' (nn + 1) c1')).heap.size = w7.heap.size := by simp [World.setCell]
      have hOF7 := hOn7.out.own HOF.out (fun b hb hs => absurd (two_types (own_typed HOF.out b hb) (own_typed HOL.out b hs)) (by decide))
      have HOF8 := Lib.hid ((Only.setCell (S := fun b => b = H) (w := w7) ⟨H, 0, none⟩ (.slice A1' (nn + 1) c1') rfl).own hOF7 (fun b hb hs => by
        have h1 := own_typed hOF7 b hb
        rw [hs] at h1
        exact absurd (two_types h1 ⟨_, HG7.out⟩) (by decide)))
      clear hOF7
      have HG8 : Hid ((w7.setCell ⟨H, 0, none⟩ (.slice A1' (nn + 1) c1')).heap[H]? = some (.cells #[.slice A1' (nn + 1) c1', vN, .slice A2 nn c2, vA] 66 (0, 0))) := Lib.hid (blk_put HG7.out 0 _ rfl)
      have HS8 := Lib.hid hW7
      clear hW7
      go_wp2_with (at_builtin; go_must (refine app_one (W := w7.setCell ⟨H, 0, none⟩ (.slice A1' (nn + 1) c1')) w7.heap.size HS8.out (by rfl) _ _ 59 3 _ 8 (by rfl) Try.underlying59 info59 (by rfl) (by decide) A2 nn c2 _ (.int .i64 0) HOF8.out (by rfl) (by rfl) (by rfl) hl2 ?_))
      intro A2' c2' w9 hO9 hOn9 hB9
      have HG9 := Lib.hid (hOn9.out.blk HG8.out (fun hk => absurd (two_types (own_typed HOF8.out H hk) ⟨_, HG8.out⟩) (by decide)))
      clear y0 y2 z0
      have y2 := (blk_cell HG9.out 2).trans rfl
      have z2 := blk_frozen HG9.out 2
      go_wp2_with fail
      go_end0
      have hX : W1.ownsRow 0 71 7 (.slice nilRE.A nilRE.n nilRE.cap) nilRE.n [] := own_nil _ _ _ _
      have HEND := stage_end (r := nilRE) (by simp [keys]) HIN.out HNN.out HST6.out.own (fun b hb => by cases hb) hX (fun b hb => by cases hb) (fun _ _ b _ h => by cases h) (Only.refl _ _) hX hOn7.out hO7.out hB7.out hOn9.out hO9.out hB9.out
      have h := HST6.out.step HEND.1 HEND.2.1 HEND.2.2
      exact ⟨rfl, h.sh, h.own, h.only⟩

/-- What the two answers ask. -/
theorem ans_in {w w2 : World} {b1 b2 B0 : Nat} {cs : List Cp} {ws : List Ex} {yl ym : Lay} (h1 : LayOk w b1 cs ws yl) (h2 : LayOk w2 b2 cs ws ym) (hN : exNL ws ≤ 16384) (hnd : (keys (entL yl ++ entL ym)).Nodup) (hlt : ∀ b ∈ keys (entL yl ++ entL ym), b < B0) :
    AnsIn (entL yl ++ entL ym) B0 [] [] [] yl ∧ AnsIn (entL yl ++ entL ym) B0 (growL yl) [stgRE yl] (negsOf yl.l) ym := by
  have p1 := perm_L yl
  have p2 := perm_L ym
  have hp := hnd
  rw [keys_append, (p1.append p2).nodup_iff] at hp
  obtain ⟨g1, n1⟩ := h1.grow_len hN
  obtain ⟨g2, n2⟩ := h2.grow_len hN
  obtain ⟨f1, s1⟩ := h1.sizes
  obtain ⟨f2, s2⟩ := h2.sizes
  have l1 : yl.l.length ≤ 8 := by have := h1.len; have := stg_len cs; have := h1.few; omega
  have l2 : ym.l.length ≤ 8 := by have := h2.len; have := stg_len cs; have := h2.few; omega
  rw [List.nodup_append] at hp
  obtain ⟨hA, hB, hC⟩ := hp
  rw [List.nodup_append] at hA hB
  obtain ⟨hA1, a3, _⟩ := hA
  obtain ⟨hB1, b3, _⟩ := hB
  rw [List.nodup_cons] at hA1 hB1
  have a2 := hA1.2
  have b2' := hB1.2
  have c := fun x (hx : x = yl.S ∨ x ∈ gs (negsOf yl.l) ∨ x ∈ gs (growL yl)) y (hy : y = ym.S ∨ y ∈ gs (negsOf ym.l) ∨ y ∈ gs (growL ym)) => hC x (by
    rcases hx with rfl | hx | hx
    · exact List.mem_append_left _ List.mem_cons_self
    · exact List.mem_append_left _ (List.mem_cons_of_mem _ hx)
    · exact List.mem_append_right _ hx) y (by
    rcases hy with rfl | hy | hy
    · exact List.mem_append_left _ List.mem_cons_self
    · exact List.mem_append_left _ (List.mem_cons_of_mem _ hy)
    · exact List.mem_append_right _ hy)
  refine ⟨⟨hnd, hlt, fun E hE => List.mem_append_left _ hE, h1.wf, a3, a2, by simp [gs, stgRE], by simp; omega, by simp; omega, by simp, l1, fun s hs => (s1 s hs).1, by omega, fun s hs => ?_⟩,
    ⟨hnd, hlt, fun E hE => List.mem_append_right _ hE, h2.wf, ?_, ?_, ?_, by rw [List.length_append]; omega, by rw [List.length_append]; omega, by simp, l2, fun s hs => (s2 s hs).1, by omega, fun s hs => ?_⟩⟩
  · obtain ⟨_, q1, q2, q3, q4⟩ := s1 s hs
    exact ⟨by omega, by omega, by omega, fun g hg => by have := q4 g hg; omega⟩
  · rw [gs_append, List.nodup_append]
    exact ⟨a3, b3, fun x hx y hy => c x (Or.inr (Or.inr hx)) y (Or.inr (Or.inr hy))⟩
  · rw [gs_append, List.nodup_append]
    exact ⟨a2, b2', fun x hx y hy => c x (Or.inr (Or.inl hx)) y (Or.inr (Or.inl hy))⟩
  · rw [gs_append, List.nodup_append]
    refine ⟨by simp [gs, stgRE], by simp [gs, stgRE], fun x hx y hy => ?_⟩
    simp [gs, stgRE] at hx hy
    rw [hx, hy]
    exact c _ (Or.inl rfl) _ (Or.inl rfl)
  · obtain ⟨_, q1, q2, q3, q4⟩ := s2 s hs
    exact ⟨by omega, by omega, by omega, fun g hg => by have := q4 g hg; omega⟩
end Go.Proofs.Ytgnifglolbfamaa

/- spoil: every node of a tree is written over. -/
set_option linter.unusedVariables false
set_option linter.unusedSimpArgs false
namespace Go.Proofs.Ytgnifglolbfamaa
open Go.RowKit Go.Proofs.YtgnifglolbfamaaW.PrintWords

theorem put_drop (l seg : List Value) (o o' m : Nat) (h : o + seg.length = o') (hl : o ≤ l.length) : ((l.take o ++ seg ++ l.drop (o + seg.length)).take m).drop o' = (l.take m).drop o' := by
  apply List.ext_getElem?
  intro i
  rw [List.getElem?_drop, List.getElem?_drop, List.getElem?_take, List.getElem?_take]
  have hlen : (l.take o ++ seg).length = o' := by rw [List.length_append, List.length_take, Nat.min_eq_left hl, h]
  rw [List.getElem?_append_right (by omega), hlen, List.getElem?_drop, h, show o' + (o' + i - o') = o' + i by omega]

section
variable {P : Program} {ops : Array Oper} {rest : List Oper} {o : Oper} {a : Act} {Q : Exit → Act → World → Prop}
/-- append(v, x), x of several cells: in place or not. -/
theorem app_cells {W : World} (H : Nat) (hH : W.heap.size = H) (hgd : o.guard = none) (s x : Operand) (t e : TypeId) (z : Value) (size bytes : Nat)
    (ho : o.op = .call { callee := .builtin .append, args := #[s, x], argTypes := #[t, t] })
    (ht : P.underlying t = some (.slice e)) (hinfo : (P.info? e).map (fun i => (i.zero, i.size, i.bytes)) = some (some z, size, bytes)) (hz : z.cells.size = size) (hs0 : 0 < size) (hb0 : 0 < bytes)
    (A : Option Addr) (n cap : Nat) (xs ys : List Value) (hO : W.ownsRow 0 e size (.slice A n cap) n xs) (hys : ys.length = size) (hu : ∀ u ∈ ys, u.oneCell' = true)
    (hs : a.eval s = .slice A n cap) (hx : a.eval x = .slice (some ⟨H, 0, none⟩) 1 1) (hl : (n + 1) * bytes ≤ 140737488355328)
    (h : ∀ A' cap' w1, Hid (w1.ownsRow 0 e size (.slice A' (n + 1) cap') (n + 1) (xs ++ ys)) → Hid (Only (fun k => (Value.slice A n cap).ownBlock = some k) W w1) → Hid (∀ k, (Value.slice A' (n + 1) cap').ownBlock = some k → (Value.slice A n cap).ownBlock = some k ∨ W.heap.size ≤ k) → wpList P ops Q rest (a.put o.dst (.slice A' (n + 1) cap')) w1) :
    wpList P ops Q (o :: rest) a (W.alloc (.cells ys.toArray e)) := by
  subst hH
  refine print_append_cells (w0 := W) (W := W) 0 hgd s x t e z size bytes ho ht hinfo hz hs0 hb0 _ n xs ys hs hx hys hu hO (Below.refl _ _) (Nat.zero_le _) hl ?_
  intro v1 w1 h1 _ h3 h4
  obtain ⟨A', c', rfl⟩ := own_slice h1
  refine h A' c' w1 (Lib.hid h1) (Lib.hid (Only.grown h3 (fun k hk => hk))) (Lib.hid (fun k hk => ?_))
  rcases h4 with h4 | ⟨b, h4, h5⟩
  · exact .inl (h4 ▸ hk)
  · rw [h4] at hk
    injection hk with hk
    exact .inr (hk ▸ h5)
/-- out[k] = T{..}. -/
theorem store_own {W : World} (hN : o.dst = none) (hgd : o.guard = none) (t : TypeId) (p x : Operand) (ho : o.op = .store t p x) (e : TypeId) (sz : Nat) (ad : Addr) (n cap k : Nat) (xs : List Value) (u : Value) (seg : List Value)
    (haddr : a.eval p = .pointer (some (ad.add (k * sz)))) (hx : a.eval x = u) (hu : u.cells.toList = seg) (ht : (P.info? t).map (·.size) = some seg.length) (hsz : seg.length = sz) (h1 : ∀ q ∈ seg, q.oneCell' = true)
    (hO : W.ownsRow 0 e sz (.slice (some ad) n cap) n xs) (hk : k < n)
    (h : ∀ w1 xs', Hid (w1.ownsRow 0 e sz (.slice (some ad) n cap) n xs') → Hid (xs'.drop ((k + 1) * sz) = xs.drop ((k + 1) * sz)) → Hid (Only (fun b => (Value.slice (some ad) n cap).ownBlock = some b) W w1) → wpList P ops Q rest a w1) : wpList P ops Q (o :: rest) a W := by
  obtain ⟨hl, hh⟩ := hO
  rcases hh with ⟨he, h0⟩ | ⟨g, cap', cur, he, hb, hg, hnc, hm, hcs, htk⟩
  · injection he with h1 h2 h3
    cases h1
  injection he with e1 e2 e3
  injection e1 with e1
  subst e1
  subst e3
  rw [add_plain] at haddr
  have hks : k * sz + sz ≤ n * sz := by rw [← Nat.succ_mul]; exact Nat.mul_le_mul_right _ hk
  have hns : n * sz ≤ cap * sz := Nat.mul_le_mul_right _ hnc
  have hfit : k * sz + seg.length ≤ cur.size := by omega
  have hrun : (Instr.storeAt t (.pointer (some ⟨g, k * sz, none⟩)) u).run P W = .ok () (W.setCells g (k * sz) seg) := run_store_run t u seg hg hu ht hfit h1
  obtain ⟨cur', h3, h4, h5⟩ := setCells_row seg (k * sz) W cur hg hfit
  obtain ⟨s1, s2, s3, s4⟩ := setCells_same g seg (k * sz) W
  refine wpList_plain hgd fun K hK => ?_
  unfold Oper.wp execOp
  simp only [ho, haddr, hx, Sem.run_bind, Sem.run_pure, Result.andThen_ok, hrun]
  show K (a.put o.dst undef) _
  rw [hN]
  refine hK a _ (h _ ((cur'.toList).take (n * sz)) (Lib.hid ⟨?_, .inr ⟨g, cap, cur', rfl, hb, h3, hnc, hm, by rw [h4, hcs], rfl⟩⟩) (Lib.hid ?_) (Lib.hid ⟨s1, s2, s3, by rw [s4]; exact Nat.le_refl _, fun b _ hn => setCells_far seg _ b (fun e => hn (by rw [e]; rfl))⟩))
  · rw [List.length_take, Array.length_toList, h4, hcs]
    omega
  · rw [h5, ← htk]
    exact put_drop cur.toList seg (k * sz) ((k + 1) * sz) (n * sz) (by rw [hsz, Nat.succ_mul]) (by rw [Array.length_toList]; omega)
end
end Go.Proofs.Ytgnifglolbfamaa

/- spoil: its walk. -/
set_option linter.unusedVariables false
set_option linter.unusedSimpArgs false
namespace Go.Proofs.Ytgnifglolbfamaa
open Go.RowKit Go.Proofs.YtgnifglolbfamaaW.PrintWords

/-- A row of which the elements from k on are known. -/
def RowFrom (w : World) (A : Option Addr) (n cap k : Nat) (ts : List TX) : Prop := ∃ xs, w.ownsRow 0 31 10 (.slice A n cap) n xs ∧ xs.drop (k * 10) = (ts.flatMap cellsT).drop (k * 10)
theorem RowFrom.at_ {w : World} {A : Option Addr} {cap k : Nat} {ts : List TX} (h : RowFrom w A ts.length cap k ts) (j : Nat) (hj : j < ts.length) (hk : k ≤ j) : ∃ ad, A = some ad ∧
    w.cell? (ad.add (j * 10)) = some (.int .i64 ts[j].f0) ∧ w.cell? ⟨(ad.add (j * 10)).block, (ad.add (j * 10)).off + 1, none⟩ = some (.int .i64 ts[j].f1) ∧
    w.cell? ⟨(ad.add (j * 10)).block, (ad.add (j * 10)).off + 2, none⟩ = some (.int .i64 ts[j].f2.f0) ∧ w.cell? ⟨(ad.add (j * 10)).block, (ad.add (j * 10)).off + 3, none⟩ = some (.int .i64 ts[j].f2.f1) ∧
    w.cell? ⟨(ad.add (j * 10)).block, (ad.add (j * 10)).off + 4, none⟩ = some (.string ts[j].f2.f2) ∧ w.cell? ⟨(ad.add (j * 10)).block, (ad.add (j * 10)).off + 5, none⟩ = some (.bool ts[j].f2.f3) ∧
    w.cell? ⟨(ad.add (j * 10)).block, (ad.add (j * 10)).off + 6, none⟩ = some (.string ts[j].f3) ∧ w.cell? ⟨(ad.add (j * 10)).block, (ad.add (j * 10)).off + 7, none⟩ = some (.int .i64 ts[j].f4) ∧
    w.cell? ⟨(ad.add (j * 10)).block, (ad.add (j * 10)).off + 8, none⟩ = some (.string ts[j].f5) ∧ w.cell? ⟨(ad.add (j * 10)).block, (ad.add (j * 10)).off + 9, none⟩ = some ts[j].v := by
  obtain ⟨xs, ho, hd⟩ := h
  obtain ⟨_, _, he, _, _, hA, _⟩ := own_shape ho
  injection he with e1 _ _
  obtain ⟨g, hg⟩ := hA (by omega)
  rw [← e1] at hg
  subst hg
  have hc : ∀ c, c < 10 → w.cell? ⟨g, j * 10 + c, none⟩ = (cellsT ts[j])[c]? := fun c hc => by
    rw [ho.cellAt _ (by omega)]
    have h1 : xs[j * 10 + c]? = (ts.flatMap cellsT)[j * 10 + c]? := by
      have := congrArg (fun z => z[j * 10 + c - k * 10]?) hd
      simp only [List.getElem?_drop] at this
      rw [show k * 10 + (j * 10 + c - k * 10) = j * 10 + c by omega] at this
      exact this
    rw [h1]
    have := congrArg (fun z => z[c]?) (flat_at cellsT 10 ts (fun _ _ => rfl) j _ (List.getElem?_eq_getElem hj))
    simp only [List.getElem?_take, if_pos hc, List.getElem?_drop] at this
    exact this
  refine ⟨⟨g, 0, none⟩, rfl, ?_⟩
  rw [add_plain]
  exact ⟨hc 0 (by decide), hc 1 (by decide), hc 2 (by decide), hc 3 (by decide), hc 4 (by decide), hc 5 (by decide), hc 6 (by decide), hc 7 (by decide), hc 8 (by decide), hc 9 (by decide)⟩
theorem RowFrom.only {w w' : World} {A : Option Addr} {n cap k : Nat} {ts : List TX} {S : Nat → Prop} (h : RowFrom w A n cap k ts) (ho : Only S w w') (hn : ∀ c, ∀ b, (Value.slice A n c).ownBlock = some b → ¬ S b) : RowFrom w' A n cap k ts := by
  obtain ⟨xs, h1, h2⟩ := h
  exact ⟨xs, ho.own h1 (hn cap), h2⟩
def nodeC (i : Int) : List Value := [.int .i64 i, .int .i64 0, .int .i64 0, .int .i64 0, .string ⟨#[]⟩, .bool false, .string ⟨#[]⟩, .int .i64 0, .string ⟨#[]⟩, .slice none 0 0]
theorem nodeC_one (i : Int) : ∀ u ∈ nodeC i, u.oneCell' = true := by
  intro u hu
  simp only [nodeC, List.mem_cons, List.not_mem_nil, or_false] at hu
  rcases hu with rfl | rfl | rfl | rfl | rfl | rfl | rfl | rfl | rfl | rfl <;> rfl
theorem sizeEx : (Try.prog.info? 31).map (·.size) = some 10 := by kernel_rfl
theorem drop_ents {l : List TX} {k : Nat} (hk : k < l.length) (h : (l.flatMap blT).Nodup) : ∀ j (hj : j < l.length), k < j → ∀ b ∈ blT l[j], b ∉ blT l[k] := by
  intro j hj hkj b hb hb'
  unfold List.Nodup at h
  rw [List.pairwise_flatMap] at h
  exact List.pairwise_iff_getElem.1 h.2 k j hk hj hkj b hb' b hb rfl

set_option maxHeartbeats 8000000 in
set_option maxRecDepth 100000 in
theorem spoil_any : ∀ (m : Nat) (t : TX), exN (exT t) ≤ m → exN (exT t) ≤ 100000000000 → WfT t → (blT t).Nodup → ∀ (A : Option Addr) (w : World), A = t.g.map (fun g => ⟨g, 0, none⟩) → AllOwn w (entT t) →
    Calls Try.prog 48 #[NodeV t A] w fun e w' => e = .returned (.tuple #[]) ∧ Only (fun b => b ∈ blT t) w w' := by
  intro m
  induction m with
  | zero => intro t h; rw [exN_eq] at h; omega
  | succ m ih =>
    intro t hm hN2 hW hnd A w hA hO
    have hWH := hW.hd
    rw [exN_eq, exT_eq] at hm hN2
    change exNL (t.kids.map exT) + 1 ≤ _ at hm
    change exNL (t.kids.map exT) + 1 ≤ _ at hN2
    have hkN : ∀ k ∈ t.kids, exN (exT k) ≤ m ∧ exN (exT k) ≤ 100000000000 := fun k hk => by
      have := exNL_mem t.kids k hk
      constructor
      · exact Nat.le_trans this (by omega)
      · exact Nat.le_trans this (by omega)
    have hkl : t.kids.length ≤ 100000000000 := by
      have := exNL_len (t.kids.map exT)
      rw [List.length_map] at this
      exact Nat.le_trans this (by omega)
    rw [entT_eq] at hO
    have hX : AllOwn w (entX t.g t.cap t.kids) := hO.sub (fun E hE => List.mem_append_left _ hE)
    have hrow := own_H hWH hX
    have hcap : t.kids.length ≤ t.cap := cap_H hWH hX
    have hcm : t.cap ≤ 9223372036854775807 := by
      obtain ⟨_, _, he, _, h2, _⟩ := own_shape hrow
      injection he with _ _ e3
      have : t.cap = _ := e3
      omega
    have hrow' : w.ownsRow 0 31 10 (.slice A t.kids.length t.cap) t.kids.length (t.kids.flatMap cellsT) := by rw [hA]; exact hrow
    have hblk : ∀ m c b, (Value.slice A m c).ownBlock = some b → t.g = some b := fun m c b hb => by
      rw [hA] at hb
      cases hg : t.g with
      | none => rw [hg] at hb; simp [Value.ownBlock] at hb
      | some g => rw [hg] at hb; simpa [Value.ownBlock] using hb
    have hkid : ∀ j (hj : j < t.kids.length), WfT t.kids[j] ∧ AllOwn w (entT t.kids[j]) ∧ (blT t.kids[j]).Nodup := fun j hj => by
      refine ⟨hWH.2 _ (List.getElem_mem hj), hO.sub (fun E hE => List.mem_append_right _ (List.mem_flatMap.2 ⟨_, List.getElem_mem hj, hE⟩)), ?_⟩
      rw [blT_eq, List.nodup_append] at hnd
      have h2 := hnd.2.1
      unfold List.Nodup at h2
      rw [List.pairwise_flatMap] at h2
      exact h2.1 _ (List.getElem_mem hj)
    have hgk : ∀ j (hj : j < t.kids.length), ∀ b ∈ blT t.kids[j], b ∈ blT t ∧ t.g ≠ some b := fun j hj b hb => by
      have hm2 : b ∈ t.kids.flatMap blT := List.mem_flatMap.2 ⟨_, List.getElem_mem hj, hb⟩
      refine ⟨by rw [blT_eq]; exact List.mem_append_right _ hm2, fun hg => ?_⟩
      rw [blT_eq, List.nodup_append] at hnd
      exact hnd.2.2 b (by rw [hg]; exact List.mem_singleton.2 rfl) b hm2 rfl
    have hgt : ∀ b, t.g = some b → b ∈ blT t := fun b hb => by rw [blT_eq, hb]; exact List.mem_append_left _ (List.mem_singleton.2 rfl)
    have hdis : ∀ k (hk : k < t.kids.length) j (hj : j < t.kids.length), k < j → ∀ b ∈ blT t.kids[j], b ∉ blT t.kids[k] := fun k hk => drop_ents hk (by rw [blT_eq, List.nodup_append] at hnd; exact hnd.2.1)
    have hb1 := below_new w (.cells #[.int .i64 t.f0, .int .i64 t.f1, .int .i64 t.f2.f0, .int .i64 t.f2.f1, .string t.f2.f2, .bool t.f2.f3, .string t.f3, .int .i64 t.f4, .string t.f5, .slice A t.kids.length t.cap] 31)
    have HBX := Lib.hid (blk_new w (.cells #[.int .i64 t.f0, .int .i64 t.f1, .int .i64 t.f2.f0, .int .i64 t.f2.f1, .string t.f2.f2, .bool t.f2.f3, .string t.f3, .int .i64 t.f4, .string t.f5, .slice A t.kids.length t.cap] 31))
    have hlow : ∀ b ∈ blT t, b < w.heap.size := fun b hb => by
      rw [← keys_entT, entT_eq] at hb
      exact hO.lt b hb
    have HROW := Lib.hid (show RowFrom (w.alloc (.cells #[.int .i64 t.f0, .int .i64 t.f1, .int .i64 t.f2.f0, .int .i64 t.f2.f1, .string t.f2.f2, .bool t.f2.f3, .string t.f3, .int .i64 t.f4, .string t.f5, .slice A t.kids.length t.cap] 31)) A t.kids.length t.cap 0 t.kids from ⟨_, pw_own_below hrow' hb1, rfl⟩)
    have HKID := Lib.hid (show ∀ j (hj : j < t.kids.length), WfT t.kids[j] ∧ AllOwn (w.alloc (.cells #[.int .i64 t.f0, .int .i64 t.f1, .int .i64 t.f2.f0, .int .i64 t.f2.f1, .string t.f2.f2, .bool t.f2.f3, .string t.f3, .int .i64 t.f4, .string t.f5, .slice A t.kids.length t.cap] 31)) (entT t.kids[j]) ∧ (blT t.kids[j]).Nodup from fun j hj => ⟨(hkid j hj).1, (hkid j hj).2.1.only (Only.of_below (S := fun _ => False) hb1) (fun _ _ h => h), (hkid j hj).2.2⟩)
    have HB1 := Lib.hid hb1
    have HKN := Lib.hid hkN
    have HBLK := Lib.hid hblk
    have HGK := Lib.hid hgk
    have HGT := Lib.hid hgt
    have HDIS := Lib.hid hdis
    have HLOW := Lib.hid hlow
    clear hm hN2 hW hnd hA hO hWH hkN hX hrow hrow' hblk hkid hgk hgt hdis hb1 hlow
    unfold NodeV
    go_enter Try.func48, Try.ntmps48
    go_wp2_with fail
    generalize w.alloc (.cells #[.int .i64 t.f0, .int .i64 t.f1, .int .i64 t.f2.f0, .int .i64 t.f2.f1, .string t.f2.f2, .bool t.f2.f3, .string t.f3, .int .i64 t.f4, .string t.f5, .slice A t.kids.length t.cap] 31) = w1 at *
    obtain ⟨B, hB⟩ : ∃ B, B = w.heap.size := ⟨_, rfl⟩
    rw [← hB] at HBX ⊢
    have HB := Lib.hid hB
    clear hB
    obtain ⟨n, hn⟩ : ∃ n, n = t.kids.length := ⟨_, rfl⟩
    rw [← hn] at HBX hkl hcap HROW ⊢
    have HN := Lib.hid hn
    clear hn
    go_loopw [2] (fun t2 wr => ∃ k : Nat, k ≤ n ∧ t2 = .int .i64 k ∧ Hid (RowFrom wr A n t.cap k t.kids) ∧ Hid (∀ j (hj : j < t.kids.length), k ≤ j → AllOwn wr (entT t.kids[j])) ∧ Hid (Only (fun b => b ∈ blT t) w1 wr)) (fun t2 _ => n - (intOf t2).toNat)
    case atStart => exact ⟨0, by omega, rfl, HROW, Lib.hid (fun j hj _ => (HKID.out j hj).2.1), Lib.hid (Only.refl _ _)⟩
    case round =>
      obtain ⟨k, hk, rfl, hRk, hOk, hOn⟩ := hrel
      generalize wr = w2 at *
      have hsz := hOn.out.size
      have hBL : B ∉ blT t := fun h => by have := HLOW.out B h; have := HB.out; omega
      have hBX2 := hOn.out.blk HBX.out hBL
      have HBX2 := Lib.hid hBX2
      have HBL := Lib.hid hBL
      have y9 := (blk_cell hBX2 9).trans rfl
      clear hBX2 hBL
      by_cases hlt : k < n
      · have hlt' : k < t.kids.length := by have := HN.out; omega
        have hRk' := hRk.out
        rw [HN.out] at hRk'
        obtain ⟨ad, had, e0, e1, e2, e3, e4, e5, e6, e7, e8, e9⟩ := hRk'.at_ k hlt' (Nat.le_refl _)
        subst had
        have HKK := Lib.hid (HKID.out k hlt')
        have HOK := Lib.hid (hOk.out k hlt' (Nat.le_refl _))
        have HKM := Lib.hid (HKN.out _ (List.getElem_mem hlt'))
        have HGK1 := Lib.hid (HGK.out k hlt')
        have HDS := Lib.hid (fun j hj hkj => HDIS.out k hlt' j hj hkj)
        generalize t.kids[k] = y at *
        obtain ⟨B9, hB9⟩ : ∃ B9, B9 = y.g.map (fun g => (⟨g, 0, none⟩ : Addr)) := ⟨_, rfl⟩
        rw [show y.v = .slice B9 y.kids.length y.cap from by rw [hB9]; rfl] at e9
        have HB9 := Lib.hid hB9
        clear hB9 hlt' hRk'
        have i1 : (0 : Int) ≤ (k : Int) := by omega
        have i2 : (k : Int) < (n : Int) := by omega
        go_wp2_with fail
        have HC := ih y HKM.out.1 HKM.out.2 HKK.out.1 HKK.out.2.2 B9 w2 HB9.out HOK.out
        unfold NodeV at HC
        refine HC.mono ?_
        rintro e W3 ⟨rfl, hOn3⟩
        have HR3 := Lib.hid (hRk.out.only hOn3 (fun c b hb hb' => (HGK1.out b hb').2 (HBLK.out _ c b hb)))
        have HOn3 := Lib.hid hOn3
        have HBX3 := Lib.hid (hOn3.blk HBX2.out (fun h => HBL.out (HGK1.out B h).1))
        have HO3 := Lib.hid (fun j (hj : j < t.kids.length) (h : k + 1 ≤ j) => (hOk.out j hj (by omega)).only hOn3 (fun b hb hb' => HDS.out j hj (by omega) b (by rw [← keys_entT]; exact hb) hb'))
        clear hOn3 HC y9 e0 e1 e2 e3 e4 e5 e6 e7 e8 e9
        have y9 := (blk_cell HBX3.out 9).trans rfl
        obtain ⟨xs, hrow, hxs⟩ := HR3.out
        have HROW3 := Lib.hid hrow
        have HXS := Lib.hid hxs
        clear hrow hxs
        go_wp2_with (refine store_own (W := W3) (by rfl) (by rfl) _ _ _ (by rfl) 31 10 ad n t.cap k xs _ (nodeC 99) (by rfl) (by rfl) (by rfl) sizeEx (by rfl) (nodeC_one 99) HROW3.out hlt ?_)
        intro w4 xs' hrow4 hxs4 hOn4
        go_wp2_with fail
        have HR4 := Lib.hid (show RowFrom w4 (some ad) n t.cap (k + 1) t.kids from ⟨xs', hrow4.out, by
          rw [hxs4.out, show (k + 1) * 10 = k * 10 + 10 by omega, ← List.drop_drop, HXS.out, List.drop_drop]⟩)
        have HO4 := Lib.hid (fun j (hj : j < t.kids.length) (h : k + 1 ≤ j) => (HO3.out j hj h).only hOn4.out (fun b hb hb' => (HGK.out j hj b (by rw [← keys_entT]; exact hb)).2 (HBLK.out _ _ b hb')))
        have HOn5 := Lib.hid ((hOn.out.same (HOn3.out.mono (fun b _ hb => (HGK1.out b hb).1))).same (hOn4.out.mono (fun b _ hb => HGT.out b (HBLK.out _ _ b hb))))
        go_roundw
        case rel => exact ⟨k + 1, by omega, by go_num, HR4, HO4, HOn5⟩
        case measure => simp [intOf]; omega
      · obtain rfl : k = n := by omega
        obtain ⟨xs0, hrow0, -⟩ := hRk.out
        have HROW0 := Lib.hid hrow0
        have HOn0 := Lib.hid hOn.out
        clear hrow0
        go_wp2_with fail
        go_loopw [3, 4] (fun t3 t4 wr => ∃ (i m' : Nat) (A' : Option Addr) (cap' : Nat) (xs : List Value), i ≤ 70000 ∧ t4 = .int .i64 i ∧ t3 = .slice A' m' cap' ∧ Hid (m' = k + i) ∧ Hid (wr.ownsRow 0 31 10 (.slice A' m' cap') m' xs) ∧ Hid (∀ b, (Value.slice A' m' cap').ownBlock = some b → b ∈ blT t ∨ w1.heap.size ≤ b) ∧ Hid (Only (fun b => b ∈ blT t) w1 wr)) (fun _ t4 _ => 70001 - (intOf t4).toNat)
        case atStart => exact ⟨0, k, A, t.cap, xs0, by omega, rfl, rfl, Lib.hid rfl, HROW0, Lib.hid (fun b hb => Or.inl (HGT.out b (HBLK.out _ _ b hb))), HOn0⟩
        case round =>
          obtain ⟨i, m', A', cap', xs, hi, rfl, rfl, hm', HRO, hBk, hOnw⟩ := hrel
          generalize wr = w3 at *
          have HBX3 := Lib.hid (hOnw.out.blk HBX.out HBL.out)
          clear y9
          have y9 := (blk_cell HBX3.out 9).trans rfl
          have hl1 : (m' + 1) * 120 ≤ 140737488355328 := by have := hm'.out; omega
          obtain ⟨_, _, he, hs1, hs2, -, -⟩ := own_shape HRO.out
          injection he with he1 he2 he3
          subst he3
          clear he1 he2
          by_cases h1 : i < 12
          · have d1 : decide ((i : Int) < 12) = true := decide_eq_true (by omega)
            go_wp2_with (at_builtin; go_must (refine app_cells (W := w3) w3.heap.size (by rfl) (by rfl) _ _ 24 31 _ 10 120 (by rfl) Try.underlying24 infoEx (by rfl) (by decide) (by decide) A' m' cap' xs (nodeC 98) HRO.out (by rfl) (nodeC_one 98) (by rfl) (by rfl) hl1 ?_))
            intro A2 cap2 w5 hO5 hOn5 hB5
            go_wp2_with fail
            go_roundw
            case rel =>
              refine ⟨i + 1, m' + 1, A2, cap2, _, by omega, by go_num, rfl, Lib.hid (by have := hm'.out; omega), hO5, Lib.hid (fun b hb => ?_), Lib.hid (hOnw.out.trans hOn5.out (fun b hb hb' => ?_))⟩
              · rcases hB5.out b hb with h | h
                · exact hBk.out b h
                · exact Or.inr (by have := hOnw.out.size; omega)
              · rcases hBk.out b hb' with h | h
                · exact h
                · omega
            case measure => simp [intOf]; omega
          · have d1 : decide ((i : Int) < 12) = false := decide_eq_false (by omega)
            by_cases h2 : m' < t.cap
            · have d2 : decide (m' < t.cap) = true := decide_eq_true h2
              by_cases h3 : i < 70000
              · have d3 : decide ((i : Int) < 70000) = true := decide_eq_true (by omega)
                go_wp2_with (at_builtin; go_must (refine app_cells (W := w3) w3.heap.size (by rfl) (by rfl) _ _ 24 31 _ 10 120 (by rfl) Try.underlying24 infoEx (by rfl) (by decide) (by decide) A' m' cap' xs (nodeC 98) HRO.out (by rfl) (nodeC_one 98) (by rfl) (by rfl) hl1 ?_))
                intro A2 cap2 w5 hO5 hOn5 hB5
                go_wp2_with fail
                go_roundw
                case rel =>
                  refine ⟨i + 1, m' + 1, A2, cap2, _, by omega, by go_num, rfl, Lib.hid (by have := hm'.out; omega), hO5, Lib.hid (fun b hb => ?_), Lib.hid (hOnw.out.trans hOn5.out (fun b hb hb' => ?_))⟩
                  · rcases hB5.out b hb with h | h
                    · exact hBk.out b h
                    · exact Or.inr (by have := hOnw.out.size; omega)
                  · rcases hBk.out b hb' with h | h
                    · exact h
                    · omega
                case measure => simp [intOf]; omega
              · have d3 : decide ((i : Int) < 70000) = false := decide_eq_false (by omega)
                go_wp2_with fail
                go_end0
                refine ⟨rfl, (Only.of_below (S := fun b => b ∈ blT t) HB1.out).same (hOnw.out.mono (fun b _ h => h))⟩
            · have d2 : decide (m' < t.cap) = false := decide_eq_false h2
              go_wp2_with fail
              go_end0
              refine ⟨rfl, (Only.of_below (S := fun b => b ∈ blT t) HB1.out).same (hOnw.out.mono (fun b _ h => h))⟩
end Go.Proofs.Ytgnifglolbfamaa

/- What reads alike is told to be the same: refrainref6.Equal, sameExprs. -/
set_option linter.unusedVariables false
set_option linter.unusedSimpArgs false
namespace Go.Proofs.Ytgnifglolbfamaa
open Go.RowKit Go.Proofs.YtgnifglolbfamaaW.PrintWords

set_option maxHeartbeats 4000000 in
set_option maxRecDepth 100000 in
theorem refeq_same : ∀ (m : Nat) (x : Ex) (A B : Option Addr) (c d : Nat) (w : World), exN x ≤ m → kEx.C w A x.f6.length x.f6 → kEx.C w B x.f6.length x.f6 →
    Calls Try.prog 45 #[exV x (.slice A x.f6.length c), exV x (.slice B x.f6.length d)] w (True_ w) := by
  intro m
  induction m with
  | zero => intro x A B c d w h; rw [exN_eq] at h; omega
  | succ m ih =>
    intro x A B c d w hm hA hB
    rw [exN_eq] at hm
    have hmx := hA.2.1
    have hb1 := below_new w (.cells #[.int .i64 x.f0, .int .i64 x.f1, .int .i64 x.f2.f0, .int .i64 x.f2.f1, .string x.f2.f2, .bool x.f2.f3, .string x.f3, .int .i64 x.f4, .string x.f5, .slice A x.f6.length c] 31)
    have hX1 := blk_new w (.cells #[.int .i64 x.f0, .int .i64 x.f1, .int .i64 x.f2.f0, .int .i64 x.f2.f1, .string x.f2.f2, .bool x.f2.f3, .string x.f3, .int .i64 x.f4, .string x.f5, .slice A x.f6.length c] 31)
    have hb2 := below_new (w.alloc (.cells #[.int .i64 x.f0, .int .i64 x.f1, .int .i64 x.f2.f0, .int .i64 x.f2.f1, .string x.f2.f2, .bool x.f2.f3, .string x.f3, .int .i64 x.f4, .string x.f5, .slice A x.f6.length c] 31)) (.cells #[.int .i64 x.f0, .int .i64 x.f1, .int .i64 x.f2.f0, .int .i64 x.f2.f1, .string x.f2.f2, .bool x.f2.f3, .string x.f3, .int .i64 x.f4, .string x.f5, .slice B x.f6.length d] 31)
    have hY := blk_new (w.alloc (.cells #[.int .i64 x.f0, .int .i64 x.f1, .int .i64 x.f2.f0, .int .i64 x.f2.f1, .string x.f2.f2, .bool x.f2.f3, .string x.f3, .int .i64 x.f4, .string x.f5, .slice A x.f6.length c] 31)) (.cells #[.int .i64 x.f0, .int .i64 x.f1, .int .i64 x.f2.f0, .int .i64 x.f2.f1, .string x.f2.f2, .bool x.f2.f3, .string x.f3, .int .i64 x.f4, .string x.f5, .slice B x.f6.length d] 31)
    rw [alloc_size'] at hY
    have hX := blk_below hX1 hb2
    have hb12 := below_step hb1 hb2
    have HA := Lib.hid (Kd.C_below hA hb12)
    have HB := Lib.hid (Kd.C_below hB hb12)
    have HBW := Lib.hid hb12
    clear hA hB hX1 hb1 hb2 hb12
    unfold exV
    go_enter Try.func45, Try.ntmps45
    have x0 := (blk_cell hX 0).trans rfl
    have x1 := (blk_cell hX 1).trans rfl
    have x2 := (blk_cell hX 2).trans rfl
    have x3 := (blk_cell hX 3).trans rfl
    have x4 := (blk_cell hX 4).trans rfl
    have x5 := (blk_cell hX 5).trans rfl
    have x6 := (blk_cell hX 6).trans rfl
    have x7 := (blk_cell hX 7).trans rfl
    have x8 := (blk_cell hX 8).trans rfl
    have x9 := (blk_cell hX 9).trans rfl
    have y0 := (blk_cell hY 0).trans rfl
    have y1 := (blk_cell hY 1).trans rfl
    have y2 := (blk_cell hY 2).trans rfl
    have y3 := (blk_cell hY 3).trans rfl
    have y4 := (blk_cell hY 4).trans rfl
    have y5 := (blk_cell hY 5).trans rfl
    have y6 := (blk_cell hY 6).trans rfl
    have y7 := (blk_cell hY 7).trans rfl
    have y8 := (blk_cell hY 8).trans rfl
    have y9 := (blk_cell hY 9).trans rfl
    go_wp2_with fail
    generalize (w.alloc (.cells #[.int .i64 x.f0, .int .i64 x.f1, .int .i64 x.f2.f0, .int .i64 x.f2.f1, .string x.f2.f2, .bool x.f2.f3, .string x.f3, .int .i64 x.f4, .string x.f5, .slice A x.f6.length c] 31)).alloc (.cells #[.int .i64 x.f0, .int .i64 x.f1, .int .i64 x.f2.f0, .int .i64 x.f2.f1, .string x.f2.f2, .bool x.f2.f3, .string x.f3, .int .i64 x.f4, .string x.f5, .slice B x.f6.length d] 31) = W1 at *
    go_loopw [5] (fun t5 wr => ∃ k : Nat, k ≤ x.f6.length ∧ t5 = .int .i64 k ∧ Below W1.heap.size W1 wr) (fun t5 _ => x.f6.length - (intOf t5).toNat)
    case atStart => exact ⟨0, by omega, rfl, Below.refl _ _⟩
    case round =>
      obtain ⟨k, hk, rfl, hBr⟩ := hrel
      generalize wr = w2 at *
      clear x0 x1 x2 x3 x4 x5 x6 x7 x8 x9 y0 y1 y2 y3 y4 y5 y6 y7 y8 y9
      have x9 := (blk_cell (blk_below hX hBr) 9).trans rfl
      have y9 := (blk_cell (blk_below hY hBr) 9).trans rfl
      by_cases hlt : k < x.f6.length
      · have i1 : (0 : Int) ≤ (k : Int) := by omega
        have i2 : (k : Int) < x.f6.length := by omega
        have hat := atEx (Kd.C_below HA.out hBr) k i1 i2
        have hbt := atEx (Kd.C_below HB.out hBr) k i1 i2
        simp only [Int.toNat_natCast] at hat hbt
        obtain ⟨ad, A9, c9, rfl, a0, a1, a2, a3, a4, a5, a6, a7, a8, a9, hl9, hi9⟩ := hat
        obtain ⟨bd, B9, d9, rfl, b0, b1, b2, b3, b4, b5, b6, b7, b8, b9, hm9, hj9⟩ := hbt
        have HR := Lib.hid (rdEx_get x.f6 k hlt)
        generalize rdEx x.f6 k = y at *
        have hyN : exN y ≤ exNL x.f6 := by rw [HR.out]; exact exN_get _ _ hlt
        have HCALL := Lib.hid (ih y A9 B9 c9 d9 w2.drew (by omega) (Kd.C_below hi9 (below_drew (Below.refl _ _))) (Kd.C_below hj9 (below_drew (Below.refl _ _))))
        unfold exV at HCALL
        clear hi9 hj9
        go_wp2_with fail
        go_still_tail 10, (by kernel_rfl)
        change wpList _ _ _ _ _ w2.drew
        have hBd := below_drew hBr
        generalize w2.drew = wd at *
        go_wp2_with fail
        refine HCALL.out.mono ?_
        rintro e w3 ⟨rfl, hb3⟩
        have hB3 := below_step hBd hb3
        go_wp2_with fail
        go_roundw
        case rel => exact ⟨k + 1, by omega, by go_num, hB3⟩
        case measure => simp [intOf]; omega
      · obtain rfl : k = x.f6.length := by omega
        go_wp2_with fail
        go_ret
        exact ⟨rfl, below_step HBW.out hBr⟩

set_option maxHeartbeats 4000000 in
set_option maxRecDepth 100000 in
theorem sameExprs_same (l : List Ex) (A B : Option Addr) (c d : Nat) (w : World) (hA : kEx.C w A l.length l) (hB : kEx.C w B l.length l) :
    Calls Try.prog 19 #[.slice A l.length c, .slice B l.length d] w (True_ w) := by
  have hmx := hA.2.1
  have HA := Lib.hid hA
  have HB := Lib.hid hB
  clear hA hB
  go_enter Try.func19, Try.ntmps19
  go_wp2_with fail
  go_loopw [5] (fun t5 wr => ∃ k : Nat, k ≤ l.length ∧ t5 = .int .i64 k ∧ Below w.heap.size w wr) (fun t5 _ => l.length - (intOf t5).toNat)
  case atStart => exact ⟨0, by omega, rfl, Below.refl _ _⟩
  case round =>
    obtain ⟨k, hk, rfl, hBr⟩ := hrel
    generalize wr = w2 at *
    by_cases hlt : k < l.length
    · have i1 : (0 : Int) ≤ (k : Int) := by omega
      have i2 : (k : Int) < l.length := by omega
      have hat := atEx (Kd.C_below HA.out hBr) k i1 i2
      have hbt := atEx (Kd.C_below HB.out hBr) k i1 i2
      simp only [Int.toNat_natCast] at hat hbt
      obtain ⟨ad, A9, c9, rfl, a0, a1, a2, a3, a4, a5, a6, a7, a8, a9, hl9, hi9⟩ := hat
      obtain ⟨bd, B9, d9, rfl, b0, b1, b2, b3, b4, b5, b6, b7, b8, b9, hm9, hj9⟩ := hbt
      generalize rdEx l k = y at *
      have HCALL := Lib.hid (refeq_same (exN y) y A9 B9 c9 d9 w2.drew (Nat.le_refl _) (Kd.C_below hi9 (below_drew (Below.refl _ _))) (Kd.C_below hj9 (below_drew (Below.refl _ _))))
      unfold exV at HCALL
      clear hi9 hj9
      go_wp2_with fail
      go_still_tail 8, (by kernel_rfl)
      change wpList _ _ _ _ _ w2.drew
      have hBd := below_drew hBr
      generalize w2.drew = wd at *
      go_wp2_with fail
      refine HCALL.out.mono ?_
      rintro e w3 ⟨rfl, hb3⟩
      have hB3 := below_step hBd hb3
      go_wp2_with fail
      go_roundw
      case rel => exact ⟨k + 1, by omega, by go_num, hB3⟩
      case measure => simp [intOf]; omega
    · obtain rfl : k = l.length := by omega
      go_wp2_with fail
      go_ret
      exact ⟨rfl, hBr⟩
end Go.Proofs.Ytgnifglolbfamaa
