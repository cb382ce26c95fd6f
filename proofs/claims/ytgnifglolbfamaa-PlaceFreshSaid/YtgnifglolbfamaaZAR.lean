/- Texts of the claim, merged in build order: QO, QP, QQ. -/
import Derived.Test.YtgnifglolbfamaaZAP
import Derived.Test.YtgnifglolbfamaaZAQ
/- Shelves and Rooms together: what is known of both; each list's growth. -/
set_option linter.unusedVariables false
set_option linter.unusedSimpArgs false
namespace Go.Proofs.Ytgnifglolbfamaa
open Go.RowKit Go.Proofs.YtgnifglolbfamaaW.PrintWords

def markS (i : Nat) : List Value := [.string ⟨#[]⟩, .string (textB i), .bool false, .slice none 0 0, .slice none 0 0, .slice none 0 0, .slice none 0 0]
def markN (i : Nat) : List Value := [.string ⟨#[]⟩, .string (textB i), .slice none 0 0]
structure ShelvesAt (w : World) (H : Nat) (ss ns : List RE) (vS vN vF vA : Value) : Prop where
  hH : w.heap[H]? = some (.cells #[vS, vN, vF, vA] 66 (0, 0))
  hS : w.ownsRow 0 52 1 vS ss.length (ss.map RE.v)
  hN : w.ownsRow 0 69 1 vN ns.length (ns.map RE.v)
  hF : w.ownsRow 0 3 1 vF ss.length (ss.map (fun r => .int .i64 r.n))
  hA : w.ownsRow 0 3 1 vA ns.length (ns.map (fun r => .int .i64 r.n))
theorem ShelvesAt.only {w w' : World} {H : Nat} {ss ns : List RE} {vS vN vF vA : Value} {S : Nat → Prop} (h : ShelvesAt w H ss ns vS vN vF vA) (ho : Only S w w') (hH : ¬ S H) (hS : ∀ k, vS.ownBlock = some k → ¬ S k) (hN : ∀ k, vN.ownBlock = some k → ¬ S k) (hF : ∀ k, vF.ownBlock = some k → ¬ S k) (hA : ∀ k, vA.ownBlock = some k → ¬ S k) : ShelvesAt w' H ss ns vS vN vF vA :=
  ⟨ho.blk h.hH hH, ho.own h.hS hS, ho.own h.hN hN, ho.own h.hF hF, ho.own h.hA hA⟩
/-- What a Rooms' growth is to leave alone: all that was there ahead of B0, and the Shelves. -/
def PrS (B0 H : Nat) (vS vN vF vA : Value) (b : Nat) : Prop := b < B0 ∨ b = H ∨ vS.ownBlock = some b ∨ vN.ownBlock = some b ∨ vF.ownBlock = some b ∨ vA.ownBlock = some b
structure ShIn (w : World) (G H B0 : Nat) (es ss ns : List RE) (vS vN vF vA : Value) : Prop where
  at_ : ShelvesAt w H ss ns vS vN vF vA
  rooms : RoomsOk w G es (PrS B0 H vS vN vF vA)
  two : ∀ k, vF.ownBlock = some k → vA.ownBlock ≠ some k
  bS : ∀ k, vS.ownBlock = some k → B0 ≤ k
  bN : ∀ k, vN.ownBlock = some k → B0 ≤ k
  bF : ∀ k, vF.ownBlock = some k → B0 ≤ k
  bA : ∀ k, vA.ownBlock = some k → B0 ≤ k
  bH : B0 ≤ H
  mS : ∀ i r, ss[i]? = some r → Marked w 71 7 (markS i) r
  mN : ∀ i r, ns[i]? = some r → Marked w 73 3 (markN i) r
  pS : ∀ r ∈ ss, ∀ b, r.g = some b → b < B0
  pN : ∀ r ∈ ns, ∀ b, r.g = some b → b < B0
  pE : ∀ r ∈ es, ∀ b, r.g = some b → b < B0
def ShOk (w : World) (G H B0 : Nat) (es ss ns : List RE) : Prop := ∃ vS vN vF vA, ShIn w G H B0 es ss ns vS vN vF vA
theorem PrS_lt {w : World} {G H B0 : Nat} {es ss ns : List RE} {vS vN vF vA : Value} (h : ShIn w G H B0 es ss ns vS vN vF vA) : ∀ b, PrS B0 H vS vN vF vA b → b < w.heap.size := by
  have hH := (Array.getElem?_eq_some_iff.1 h.at_.hH).1
  have := h.bH
  intro b hb
  rcases hb with hb | rfl | hb | hb | hb | hb
  · omega
  · exact hH
  · exact own_lt h.at_.hS b hb
  · exact own_lt h.at_.hN b hb
  · exact own_lt h.at_.hF b hb
  · exact own_lt h.at_.hA b hb
theorem entX_e {g : Option Nat} {cap : Nat} {ts : List TX} : ∀ E ∈ entX g cap ts, E.e = 31 := by
  intro E hE
  cases g with
  | none => cases hE
  | some g => rw [List.mem_singleton.1 hE]
mutual
theorem entT_e : ∀ t : TX, ∀ E ∈ entT t, E.e = 31
  | .mk a b c d e f g cap k => fun E hE => by
    rw [entT] at hE
    rcases List.mem_append.1 hE with h | h
    · exact entX_e E h
    · exact entTs_e k E h
theorem entTs_e : ∀ l : List TX, ∀ E ∈ entTs l, E.e = 31
  | [] => fun E hE => by rw [entTs] at hE; cases hE
  | x :: l => fun E hE => by
    rw [entTs] at hE
    rcases List.mem_append.1 hE with h | h
    · exact entT_e x E h
    · exact entTs_e l E h
end
theorem entH_e (x : HX) : ∀ E ∈ entH x, E.e = 31 := by
  intro E hE
  unfold entH at hE
  rw [← entTs_eq] at hE
  rcases List.mem_append.1 hE with h | h
  · exact entX_e E h
  · exact entTs_e _ E h
theorem keyH_type {w : World} {x : HX} (h : AllOwn w (entH x)) : ∀ b ∈ keys (entH x), ∃ c, w.heap[b]? = some (.cells c 31 (0, 0)) := by
  intro b hb
  obtain ⟨E, hE, rfl⟩ := List.mem_map.1 hb
  have := (h E hE).blk
  rw [entH_e x E hE] at this
  exact this
theorem keys_sub {L L' : List Ent} (h : ∀ E ∈ L', E ∈ L) : ∀ b ∈ keys L', b ∈ keys L := fun b hb => by
  obtain ⟨E, hE, rfl⟩ := List.mem_map.1 hb
  exact List.mem_map.2 ⟨E, h E hE, rfl⟩
theorem sub_nodup {L : List Ent} (hN : (keys L).Nodup) {L' : List Ent} (h : ∀ E ∈ L', E ∈ L) {E : Ent} (hE : E ∈ L) (hb : E.b ∈ keys L') : E ∈ L' := by
  obtain ⟨E', hE', he⟩ := List.mem_map.1 hb
  have := key_inj hN (h E' hE') hE he
  exact this ▸ hE'

/-- What a call of each leaves. -/
def ShEach (L : List Ent) (G H B0 : Nat) (es ss ns : List RE) (w : World) (e : Ending) (w' : World) : Prop :=
  e = .returned (.tuple #[]) ∧ ShOk w' G H B0 es ss ns ∧ AllOwn w' L ∧ Only (fun b => B0 ≤ b ∨ b ∈ keys L) w w'
theorem sh_each (L : List Ent) (hN : (keys L).Nodup) (x : HX) (hN2 : exNL (x.2.2.map exT) ≤ 100000000000) (hW : WfH x) (hx : ∀ E ∈ entH x, E ∈ L) (hxN : (keys (entH x)).Nodup) (G H B0 : Nat) (es ss ns : List RE) (w : World) (hS : ShOk w G H B0 es ss ns) (hL : AllOwn w L)
    (hLB : ∀ b ∈ keys L, b < B0) (hnd : (gs (es ++ growH x)).Nodup) (hlen : (es ++ growH x).length ≤ 1000000000) (A : Option Addr) (hA : A = x.1.map (fun g => ⟨g, 0, none⟩)) :
    Calls Try.prog 46 #[.pointer (some ⟨G, 0, none⟩), .slice A x.2.2.length x.2.1] w (ShEach L G H B0 (es ++ growH x) ss ns w) := by
  obtain ⟨vS, vN, vF, vA, h⟩ := hS
  have hlt := PrS_lt h
  have hH := (Array.getElem?_eq_some_iff.1 h.at_.hH).1
  have hLx := hL.sub hx
  refine (each_any (entH x) hxN x hN2 hW (fun E h => h) G es (PrS B0 H vS vN vF vA) A w hA h.rooms hLx hlt (fun b hb => Or.inl (hLB b (keys_sub hx b hb))) hnd hlen).mono ?_
  rintro e w' ⟨rfl, hR, hO, hA'⟩
  have ht := keyH_type hLx
  have nk : ∀ b, PrS B0 H vS vN vF vA b → b ∉ keys (entH x) → ¬ (¬ PrS B0 H vS vN vF vA b ∨ b ∈ keys (entH x)) := fun b h1 h2 h3 => h3.elim (fun h => h h1) h2
  have hge : ∀ b, B0 ≤ b → b ∉ keys (entH x) := fun b hb hk => by have := hLB b (keys_sub hx b hk); omega
  refine ⟨rfl, ⟨vS, vN, vF, vA, ⟨h.at_.only hO (nk _ (Or.inr (Or.inl rfl)) (hge _ h.bH)) (fun k hk => nk k (Or.inr (Or.inr (Or.inl hk))) (hge k (h.bS k hk))) (fun k hk => nk k (Or.inr (Or.inr (Or.inr (Or.inl hk)))) (hge k (h.bN k hk)))
    (fun k hk => nk k (Or.inr (Or.inr (Or.inr (Or.inr (Or.inl hk))))) (hge k (h.bF k hk))) (fun k hk => nk k (Or.inr (Or.inr (Or.inr (Or.inr (Or.inr hk))))) (hge k (h.bA k hk))), hR, h.two, h.bS, h.bN, h.bF, h.bA, h.bH, fun i r hi => ?_, fun i r hi => ?_, h.pS, h.pN, fun r hr b hb => ?_⟩⟩, fun E hE => ?_, hO.mono (fun b _ hb => ?_)⟩
  · refine (h.mS i r hi).only hO (fun b hb => nk b (Or.inl (h.pS r (List.mem_of_getElem? hi) b hb)) (fun hk => ?_))
    obtain ⟨xs, _, ho⟩ := h.mS i r hi
    exact absurd (two_types (own_typed ho b (by unfold RE.v; rw [RE.own_block]; exact hb)) (ht b hk)) (by decide)
  · refine (h.mN i r hi).only hO (fun b hb => nk b (Or.inl (h.pN r (List.mem_of_getElem? hi) b hb)) (fun hk => ?_))
    obtain ⟨xs, _, ho⟩ := h.mN i r hi
    exact absurd (two_types (own_typed ho b (by unfold RE.v; rw [RE.own_block]; exact hb)) (ht b hk)) (by decide)
  · rcases List.mem_append.1 hr with hr | hr
    · exact h.pE r hr b hb
    · exact hLB b (keys_sub hx b (gs_sub (fun E h => h) b (gs_mem hr hb)))
  · by_cases hk : E.b ∈ keys (entH x)
    · exact hA' E (sub_nodup hN hx hE hk)
    · exact (hL E hE).only hO (nk _ (Or.inl (hLB _ (List.mem_map.2 ⟨E, hE, rfl⟩))) hk)
  · rcases hb with hb | hb
    · refine Or.inl (Nat.le_of_not_lt (fun h => hb (Or.inl h)))
    · exact Or.inr (keys_sub hx b hb)

/-- Shelves: the end of a list of negated stages. -/
def reN (x : HG) : RE := ⟨x.1, x.2.2.length, x.2.1⟩
theorem ShOk.below {w w' : World} {G H B0 : Nat} {es ss ns : List RE} (h : ShOk w G H B0 es ss ns) (hb : Below w.heap.size w w') : ShOk w' G H B0 es ss ns := by
  obtain ⟨vS, vN, vF, vA, h⟩ := h
  have ho : Only (fun _ => False) w w' := Only.of_below hb
  exact ⟨vS, vN, vF, vA, ⟨h.at_.only ho (fun h => h) (fun _ _ h => h) (fun _ _ h => h) (fun _ _ h => h) (fun _ _ h => h), h.rooms.below hb, h.two, h.bS, h.bN, h.bF, h.bA, h.bH, fun i r hi => (h.mS i r hi).only ho (fun _ _ h => h), fun i r hi => (h.mN i r hi).only ho (fun _ _ h => h), h.pS, h.pN, h.pE⟩⟩
end Go.Proofs.Ytgnifglolbfamaa

/- Shelves: the end of a list that was grown: its slice and its length are kept. (Printed by mkqp.py.) -/
set_option linter.unusedVariables false
set_option linter.unusedSimpArgs false
namespace Go.Proofs.Ytgnifglolbfamaa
open Go.RowKit Go.Proofs.YtgnifglolbfamaaW.PrintWords

theorem rooms_move {w w' : World} {G : Nat} {es : List RE} {Pr Pr' S : Nat → Prop} (h : RoomsOk w G es Pr) (ho : Only S w w') (hS : ∀ b, S b → Pr b) (hp : ∀ b, b < w.heap.size → ¬ Pr b → ¬ Pr' b) (hm : ∀ r ∈ es, ∀ b, r.g = some b → ¬ S b) (hm' : ∀ r ∈ es, ∀ b, r.g = some b → Pr' b) : RoomsOk w' G es Pr' := by
  have hlt := h.lt
  obtain ⟨vL, vF, h1, h2, h3⟩ := h.at_
  exact ⟨⟨vL, vF, h1.only ho (fun h4 => h.pG (hS _ h4)) (fun k hk h4 => h2 k hk (hS k h4)) (fun k hk h4 => h3 k hk (hS k h4)), fun k hk => hp k (own_lt h1.hL k hk) (h2 k hk), fun k hk => hp k (own_lt h1.hF k hk) (h3 k hk)⟩, hp G hlt h.pG, fun i r hi => (h.mkd i r hi).only ho (hm r (List.mem_of_getElem? hi)), hm'⟩
theorem marks_snoc {w : World} {e : TypeId} {sz : Nat} {f : Nat → List Value} {l : List RE} {r : RE} {nn : Nat} (hnn : nn = l.length) (h : ∀ i r', l[i]? = some r' → Marked w e sz (f i) r') (hr : Marked w e sz (f nn) r) : ∀ i r', (l ++ [r])[i]? = some r' → Marked w e sz (f i) r' := by
  intro i r' hi
  rw [List.getElem?_append] at hi
  split at hi
  · exact h i r' hi
  · rename_i hlt
    have hi0 : i - l.length = 0 := by
      rcases Nat.eq_zero_or_pos (i - l.length) with h | h
      · exact h
      · rw [List.getElem?_eq_none (by simp; omega)] at hi; cases hi
    rw [hi0] at hi
    have : r = r' := by simpa using hi
    subst this
    have hie : i = nn := by omega
    subst hie
    exact hr
theorem neg_end {L : List Ent} (hN : (keys L).Nodup) {w w2 w5 w7 : World} {G H B0 : Nat} {es ss ns : List RE} {vO vP : Value} {AN AA AN' AA' : Option Addr} {nn cN cA cN' cA' : Nat} {r : RE} {xs : List Value}
    (h : ShIn w G H B0 es ss ns vO (.slice AN nn cN) vP (.slice AA nn cA)) (hnn : nn = ns.length) (hL : AllOwn w L) (hLB : ∀ b ∈ keys L, b < B0)
    (hX : w.ownsRow 0 73 3 (.slice r.A r.n r.cap) r.n xs) (hr : ∀ b, r.g = some b → (⟨b, 73, 3, r.n, r.cap, xs⟩ : Ent) ∈ L) (hd : ∀ r' ∈ ns, ∀ b, r'.g = some b → r.g ≠ some b)
    (hOn : Only (fun b => r.g = some b) w w2) (hO : w2.ownsRow 0 73 3 (.slice r.A (r.n + r.rm) r.cap) (r.n + r.rm) (xs ++ reps (markN nn) r.rm))
    (hOn5 : Only (fun k => (Value.slice AN nn cN).ownBlock = some k) w2 w5) (hO5 : w5.ownsRow 0 69 1 (.slice AN' (nn + 1) cN') (nn + 1) (ns.map RE.v ++ [.slice r.A (r.n + r.rm) r.cap]))
    (hB5 : ∀ k, (Value.slice AN' (nn + 1) cN').ownBlock = some k → (Value.slice AN nn cN).ownBlock = some k ∨ w2.heap.size ≤ k)
    (hOn7 : Only (fun k => (Value.slice AA nn cA).ownBlock = some k) (w5.setCell ⟨H, 1, none⟩ (.slice AN' (nn + 1) cN')) w7)
    (hO7 : w7.ownsRow 0 3 1 (.slice AA' (nn + 1) cA') (nn + 1) (ns.map (fun r => .int .i64 r.n) ++ [.int .i64 r.n]))
    (hB7 : ∀ k, (Value.slice AA' (nn + 1) cA').ownBlock = some k → (Value.slice AA nn cA).ownBlock = some k ∨ w5.heap.size ≤ k) :
    ShOk (w7.setCell ⟨H, 3, none⟩ (.slice AA' (nn + 1) cA')) G H B0 es ss (ns ++ [r]) ∧ AllOwn (w7.setCell ⟨H, 3, none⟩ (.slice AA' (nn + 1) cA')) L ∧ Only (fun b => B0 ≤ b ∨ b ∈ keys L) w (w7.setCell ⟨H, 3, none⟩ (.slice AA' (nn + 1) cA')) := by
  have hrB : ∀ b, r.g = some b → b < B0 := fun b hb => hLB b (List.mem_map.2 ⟨_, hr b hb, rfl⟩)
  have hrT : ∀ b, r.g = some b → ∃ c, w.heap[b]? = some (.cells c 73 (0, 0)) := fun b hb => own_typed hX b (by rw [RE.own_block]; exact hb)
  have hHT : ∃ c, w.heap[H]? = some (.cells c 66 (0, 0)) := ⟨_, h.at_.hH⟩
  have hH := (Array.getElem?_eq_some_iff.1 h.at_.hH).1
  have bB0 := h.bH
  have s2 := hOn.size
  have s5 := hOn5.size
  have s7 := hOn7.size
  have s6 : (w5.setCell ⟨H, 1, none⟩ (.slice AN' (nn + 1) cN')).heap.size = w5.heap.size := by simp [World.setCell]
  have bbN : ∀ k, (Value.slice AN nn cN).ownBlock = some k → B0 ≤ k := h.bN
  have bbA : ∀ k, (Value.slice AA nn cA).ownBlock = some k → B0 ≤ k := h.bA
  have tN : ∀ k, (Value.slice AN nn cN).ownBlock = some k → ∃ c, w.heap[k]? = some (.cells c 69 (0, 0)) := fun k hk => own_typed h.at_.hN k hk
  have tA : ∀ k, (Value.slice AA nn cA).ownBlock = some k → ∃ c, w.heap[k]? = some (.cells c 3 (0, 0)) := fun k hk => own_typed h.at_.hA k hk
  -- the whole frame
  obtain ⟨T, hT⟩ : ∃ T : Nat → Prop, T = fun b => r.g = some b ∨ b = H ∨ (Value.slice AN nn cN).ownBlock = some b ∨ (Value.slice AA nn cA).ownBlock = some b := ⟨_, rfl⟩
  have hA56 : Only T w2 (w5.setCell ⟨H, 1, none⟩ (.slice AN' (nn + 1) cN')) := (hOn5.mono (fun b _ hb => by rw [hT]; exact Or.inr (Or.inr (Or.inl hb)))).same (Only.setCell _ _ (by rw [hT]; exact Or.inr (Or.inl rfl)))
  have hA28 : Only (fun b => b = H ∨ (Value.slice AN nn cN).ownBlock = some b ∨ (Value.slice AA nn cA).ownBlock = some b) w2 (w7.setCell ⟨H, 3, none⟩ (.slice AA' (nn + 1) cA')) :=
    (((hOn5.mono (fun b _ hb => Or.inr (Or.inl hb))).same (show Only (fun b => b = H ∨ (Value.slice AN nn cN).ownBlock = some b ∨ (Value.slice AA nn cA).ownBlock = some b) w5 (w5.setCell ⟨H, 1, none⟩ (.slice AN' (nn + 1) cN')) from Only.setCell _ _ (Or.inl rfl))).same (hOn7.mono (fun b _ hb => Or.inr (Or.inr hb)))).same (show Only (fun b => b = H ∨ (Value.slice AN nn cN).ownBlock = some b ∨ (Value.slice AA nn cA).ownBlock = some b) w7 (w7.setCell ⟨H, 3, none⟩ (.slice AA' (nn + 1) cA')) from Only.setCell _ _ (Or.inl rfl))
  have hAll : Only T w (w7.setCell ⟨H, 3, none⟩ (.slice AA' (nn + 1) cA')) := by
    rw [hT]
    exact (hOn.mono (fun b _ hb => Or.inl hb)).same (hA28.mono (fun b _ hb => Or.inr hb))
  have hlow : ∀ b, b < B0 → r.g ≠ some b → ¬ T b := fun b hb hn ht => by
    rw [hT] at ht
    rcases ht with h1 | h1 | h1 | h1
    · exact hn h1
    · omega
    · have := bbN b h1; omega
    · have := bbA b h1; omega
  have hty : ∀ b u, (∃ c, w.heap[b]? = some (.cells c u (0, 0))) → u ≠ 73 → u ≠ 66 → u ≠ 69 → u ≠ 3 → ¬ T b := fun b u hu n1 n2 n3 n4 ht => by
    rw [hT] at ht
    rcases ht with h1 | h1 | h1 | h1
    · exact n1 (two_types hu (hrT b h1))
    · exact n2 (two_types hu (h1 ▸ hHT))
    · exact n3 (two_types hu (tN b h1))
    · exact n4 (two_types hu (tA b h1))
  -- the Shelves' block
  have nH : ∀ (v : Value) (u : TypeId), (∀ k, v.ownBlock = some k → ∃ c, w.heap[k]? = some (.cells c u (0, 0))) → u ≠ 66 → ∀ k, v.ownBlock = some k → k ≠ H := fun v u hv hu k hk e => hu (two_types (hv k hk) (e ▸ hHT))
  have H2 := hOn.blk h.at_.hH (fun hb => absurd (two_types hHT (hrT H hb)) (by decide))
  have H5 := hOn5.blk H2 (fun hb => nH _ 69 tN (by decide) H hb rfl)
  have H6 : (w5.setCell ⟨H, 1, none⟩ (.slice AN' (nn + 1) cN')).heap[H]? = some (.cells #[vO, .slice AN' (nn + 1) cN', vP, .slice AA nn cA] 66 (0, 0)) := blk_put H5 1 _ rfl
  have H7 := hOn7.blk H6 (fun hb => nH _ 3 tA (by decide) H hb rfl)
  have H8 : (w7.setCell ⟨H, 3, none⟩ (.slice AA' (nn + 1) cA')).heap[H]? = some (.cells #[vO, .slice AN' (nn + 1) cN', vP, .slice AA' (nn + 1) cA'] 66 (0, 0)) := blk_put H7 3 _ rfl
  -- the new rows
  have hO5' : (w7.setCell ⟨H, 3, none⟩ (.slice AA' (nn + 1) cA')).ownsRow 0 69 1 (.slice AN' (nn + 1) cN') (nn + 1) (ns.map RE.v ++ [.slice r.A (r.n + r.rm) r.cap]) := by
    have t5 := fun k hk => own_typed hO5 k hk
    have nH5 : ∀ k, (Value.slice AN' (nn + 1) cN').ownBlock = some k → k ≠ H := fun k hk e => absurd (two_types (t5 k hk) ⟨_, e ▸ H5⟩) (by decide)
    have h6 := (Only.setCell (S := fun b => b = H) (w := w5) ⟨H, 1, none⟩ (.slice AN' (nn + 1) cN') rfl).own hO5 nH5
    have h7 := hOn7.own h6 (fun k hk hb => by
      rcases hB5 k hk with h1 | h1
      · exact absurd (two_types (tN k h1) (tA k hb)) (by decide)
      · obtain ⟨c, hc⟩ := tA k hb
        have := (Array.getElem?_eq_some_iff.1 hc).1
        omega)
    exact (Only.setCell (S := fun b => b = H) (w := w7) ⟨H, 3, none⟩ (.slice AA' (nn + 1) cA') rfl).own h7 nH5
  have hO7' : (w7.setCell ⟨H, 3, none⟩ (.slice AA' (nn + 1) cA')).ownsRow 0 3 1 (.slice AA' (nn + 1) cA') (nn + 1) (ns.map (fun r => .int .i64 r.n) ++ [.int .i64 r.n]) :=
    (Only.setCell (S := fun b => b = H) (w := w7) ⟨H, 3, none⟩ (.slice AA' (nn + 1) cA') rfl).own hO7 (fun k hk e => absurd (two_types (own_typed hO7 k hk) ⟨_, e ▸ H7⟩) (by decide))
  have hO8 := hA28.own hO (fun k hk hb => by
    rw [RE.own_block] at hk
    have := hrB k hk
    rcases hb with h1 | h1 | h1
    · omega
    · have := bbN k h1; omega
    · have := bbA k h1; omega)
  have hnew : ∀ b, b < w.heap.size → ¬ PrS B0 H vO (.slice AN nn cN) vP (.slice AA nn cA) b → ¬ PrS B0 H vO (.slice AN' (nn + 1) cN') vP (.slice AA' (nn + 1) cA') b := fun b hb hn hp => by
    refine hn ?_
    unfold PrS at hp ⊢
    rcases hp with h1 | h1 | h1 | h1 | h1 | h1
    · exact Or.inl h1
    · exact Or.inr (Or.inl h1)
    · exact Or.inr (Or.inr (Or.inl h1))
    · rcases hB5 b h1 with h2 | h2
      · exact Or.inr (Or.inr (Or.inr (Or.inl h2)))
      · omega
    · exact Or.inr (Or.inr (Or.inr (Or.inr (Or.inl h1))))
    · rcases hB7 b h1 with h2 | h2
      · exact Or.inr (Or.inr (Or.inr (Or.inr (Or.inr h2))))
      · omega
  have hm : ∀ r' ∈ es, ∀ b, r'.g = some b → ¬ T b := fun r' hr' b hb => by
    obtain ⟨i, hi⟩ := List.getElem?_of_mem hr'
    obtain ⟨ys, _, ho⟩ := h.rooms.mkd i r' hi
    exact hty b 31 (own_typed ho b (by unfold RE.v; rw [RE.own_block]; exact hb)) (by decide) (by decide) (by decide) (by decide)
  have hl1 : (ns ++ [r]).length = nn + 1 := by rw [List.length_append, List.length_singleton, hnn]
  have hvP : ∀ k, vP.ownBlock = some k → ¬ T k := fun k hk ht => by
    have tk := own_typed h.at_.hF k hk
    rw [hT] at ht
    rcases ht with h1 | h1 | h1 | h1
    · exact absurd (two_types tk (hrT k h1)) (by decide)
    · exact absurd (two_types tk (h1 ▸ hHT)) (by decide)
    · exact absurd (two_types tk (tN k h1)) (by decide)
    · exact h.two k hk h1
  have hbN' : ∀ k, (Value.slice AN' (nn + 1) cN').ownBlock = some k → B0 ≤ k := fun k hk => (hB5 k hk).elim (bbN k) (fun h1 => by omega)
  have hbA' : ∀ k, (Value.slice AA' (nn + 1) cA').ownBlock = some k → B0 ≤ k := fun k hk => (hB7 k hk).elim (bbA k) (fun h1 => by omega)
  have hpL : ∀ r' ∈ ns ++ [r], ∀ b, r'.g = some b → b < B0 := fun r' hr' b hb => by
    rcases List.mem_append.1 hr' with h1 | h1
    · exact h.pN r' h1 b hb
    · rw [List.mem_singleton.1 h1] at hb
      exact hrB b hb
  refine ⟨⟨vO, _, vP, _, ⟨⟨H8, hAll.own h.at_.hS (fun k hk => hty k 52 (own_typed h.at_.hS k hk) (by decide) (by decide) (by decide) (by decide)), (by rw [hl1, List.map_append]; exact hO5'), hAll.own h.at_.hF hvP, (by rw [hl1, List.map_append]; exact hO7')⟩, ?_, ?_, h.bS, hbN', h.bF, hbA', h.bH, ?_, ?_, h.pS, hpL, h.pE⟩⟩, fun E hE => ?_, hAll.mono (fun b _ hb => ?_)⟩
  · refine rooms_move h.rooms hAll (fun b hb => ?_) hnew hm (fun r' hr' b hb => Or.inl (h.pE r' hr' b hb))
    rw [hT] at hb
    rcases hb with h1 | h1 | h1 | h1
    · exact Or.inl (hrB b h1)
    · exact Or.inr (Or.inl h1)
    · exact Or.inr (Or.inr (Or.inr (Or.inl h1)))
    · exact Or.inr (Or.inr (Or.inr (Or.inr (Or.inr h1))))
  · exact fun k hk he => (hB7 k he).elim (fun h1 => h.two k hk h1) (fun h1 => by have := own_lt h.at_.hF k hk; omega)
  · exact fun i r' hi => (h.mS i r' hi).only hAll (fun b hb => by obtain ⟨ys, _, ho⟩ := h.mS i r' hi; exact hty b 71 (own_typed ho b (by unfold RE.v; rw [RE.own_block]; exact hb)) (by decide) (by decide) (by decide) (by decide))
  · exact marks_snoc hnn (fun i r' hi => (h.mN i r' hi).only hAll (fun b hb => hlow b (h.pN r' (List.mem_of_getElem? hi) b hb) (hd r' (List.mem_of_getElem? hi) b hb))) ⟨xs, hX.1, hO8⟩
  · by_cases hk : r.g = some E.b
    · have := key_inj hN hE (hr _ hk) rfl
      rw [this]
      have hA : r.A = some ⟨E.b, 0, none⟩ := by unfold RE.A; rw [hk]; rfl
      have h8 := own_prefix hO8 hX.1 (by rw [hA]; simp) (Nat.le_add_right _ _)
      rw [hA] at h8
      exact h8
    · exact (hL E hE).only hAll (hlow _ (hLB _ (List.mem_map.2 ⟨E, hE, rfl⟩)) hk)
  · rw [hT] at hb
    rcases hb with h1 | h1 | h1 | h1
    · exact Or.inr (List.mem_map.2 ⟨_, hr b h1, rfl⟩)
    · exact Or.inl (by omega)
    · exact Or.inl (bbN b h1)
    · exact Or.inl (bbA b h1)
theorem stage_end {L : List Ent} (hN : (keys L).Nodup) {w w2 w5 w7 : World} {G H B0 : Nat} {es ss ns : List RE} {vO vP : Value} {AN AA AN' AA' : Option Addr} {nn cN cA cN' cA' : Nat} {r : RE} {xs : List Value}
    (h : ShIn w G H B0 es ss ns (.slice AN nn cN) vO (.slice AA nn cA) vP) (hnn : nn = ss.length) (hL : AllOwn w L) (hLB : ∀ b ∈ keys L, b < B0)
    (hX : w.ownsRow 0 71 7 (.slice r.A r.n r.cap) r.n xs) (hr : ∀ b, r.g = some b → (⟨b, 71, 7, r.n, r.cap, xs⟩ : Ent) ∈ L) (hd : ∀ r' ∈ ss, ∀ b, r'.g = some b → r.g ≠ some b)
    (hOn : Only (fun b => r.g = some b) w w2) (hO : w2.ownsRow 0 71 7 (.slice r.A (r.n + r.rm) r.cap) (r.n + r.rm) (xs ++ reps (markS nn) r.rm))
    (hOn5 : Only (fun k => (Value.slice AN nn cN).ownBlock = some k) w2 w5) (hO5 : w5.ownsRow 0 52 1 (.slice AN' (nn + 1) cN') (nn + 1) (ss.map RE.v ++ [.slice r.A (r.n + r.rm) r.cap]))
    (hB5 : ∀ k, (Value.slice AN' (nn + 1) cN').ownBlock = some k → (Value.slice AN nn cN).ownBlock = some k ∨ w2.heap.size ≤ k)
    (hOn7 : Only (fun k => (Value.slice AA nn cA).ownBlock = some k) (w5.setCell ⟨H, 0, none⟩ (.slice AN' (nn + 1) cN')) w7)
    (hO7 : w7.ownsRow 0 3 1 (.slice AA' (nn + 1) cA') (nn + 1) (ss.map (fun r => .int .i64 r.n) ++ [.int .i64 r.n]))
    (hB7 : ∀ k, (Value.slice AA' (nn + 1) cA').ownBlock = some k → (Value.slice AA nn cA).ownBlock = some k ∨ w5.heap.size ≤ k) :
    ShOk (w7.setCell ⟨H, 2, none⟩ (.slice AA' (nn + 1) cA')) G H B0 es (ss ++ [r]) ns ∧ AllOwn (w7.setCell ⟨H, 2, none⟩ (.slice AA' (nn + 1) cA')) L ∧ Only (fun b => B0 ≤ b ∨ b ∈ keys L) w (w7.setCell ⟨H, 2, none⟩ (.slice AA' (nn + 1) cA')) := by
  have hrB : ∀ b, r.g = some b → b < B0 := fun b hb => hLB b (List.mem_map.2 ⟨_, hr b hb, rfl⟩)
  have hrT : ∀ b, r.g = some b → ∃ c, w.heap[b]? = some (.cells c 71 (0, 0)) := fun b hb => own_typed hX b (by rw [RE.own_block]; exact hb)
  have hHT : ∃ c, w.heap[H]? = some (.cells c 66 (0, 0)) := ⟨_, h.at_.hH⟩
  have hH := (Array.getElem?_eq_some_iff.1 h.at_.hH).1
  have bB0 := h.bH
  have s2 := hOn.size
  have s5 := hOn5.size
  have s7 := hOn7.size
  have s6 : (w5.setCell ⟨H, 0, none⟩ (.slice AN' (nn + 1) cN')).heap.size = w5.heap.size := by simp [World.setCell]
  have bbN : ∀ k, (Value.slice AN nn cN).ownBlock = some k → B0 ≤ k := h.bS
  have bbA : ∀ k, (Value.slice AA nn cA).ownBlock = some k → B0 ≤ k := h.bF
  have tN : ∀ k, (Value.slice AN nn cN).ownBlock = some k → ∃ c, w.heap[k]? = some (.cells c 52 (0, 0)) := fun k hk => own_typed h.at_.hS k hk
  have tA : ∀ k, (Value.slice AA nn cA).ownBlock = some k → ∃ c, w.heap[k]? = some (.cells c 3 (0, 0)) := fun k hk => own_typed h.at_.hF k hk
  -- the whole frame
  obtain ⟨T, hT⟩ : ∃ T : Nat → Prop, T = fun b => r.g = some b ∨ b = H ∨ (Value.slice AN nn cN).ownBlock = some b ∨ (Value.slice AA nn cA).ownBlock = some b := ⟨_, rfl⟩
  have hA56 : Only T w2 (w5.setCell ⟨H, 0, none⟩ (.slice AN' (nn + 1) cN')) := (hOn5.mono (fun b _ hb => by rw [hT]; exact Or.inr (Or.inr (Or.inl hb)))).same (Only.setCell _ _ (by rw [hT]; exact Or.inr (Or.inl rfl)))
  have hA28 : Only (fun b => b = H ∨ (Value.slice AN nn cN).ownBlock = some b ∨ (Value.slice AA nn cA).ownBlock = some b) w2 (w7.setCell ⟨H, 2, none⟩ (.slice AA' (nn + 1) cA')) :=
    (((hOn5.mono (fun b _ hb => Or.inr (Or.inl hb))).same (show Only (fun b => b = H ∨ (Value.slice AN nn cN).ownBlock = some b ∨ (Value.slice AA nn cA).ownBlock = some b) w5 (w5.setCell ⟨H, 0, none⟩ (.slice AN' (nn + 1) cN')) from Only.setCell _ _ (Or.inl rfl))).same (hOn7.mono (fun b _ hb => Or.inr (Or.inr hb)))).same (show Only (fun b => b = H ∨ (Value.slice AN nn cN).ownBlock = some b ∨ (Value.slice AA nn cA).ownBlock = some b) w7 (w7.setCell ⟨H, 2, none⟩ (.slice AA' (nn + 1) cA')) from Only.setCell _ _ (Or.inl rfl))
  have hAll : Only T w (w7.setCell ⟨H, 2, none⟩ (.slice AA' (nn + 1) cA')) := by
    rw [hT]
    exact (hOn.mono (fun b _ hb => Or.inl hb)).same (hA28.mono (fun b _ hb => Or.inr hb))
  have hlow : ∀ b, b < B0 → r.g ≠ some b → ¬ T b := fun b hb hn ht => by
    rw [hT] at ht
    rcases ht with h1 | h1 | h1 | h1
    · exact hn h1
    · omega
    · have := bbN b h1; omega
    · have := bbA b h1; omega
  have hty : ∀ b u, (∃ c, w.heap[b]? = some (.cells c u (0, 0))) → u ≠ 71 → u ≠ 66 → u ≠ 52 → u ≠ 3 → ¬ T b := fun b u hu n1 n2 n3 n4 ht => by
    rw [hT] at ht
    rcases ht with h1 | h1 | h1 | h1
    · exact n1 (two_types hu (hrT b h1))
    · exact n2 (two_types hu (h1 ▸ hHT))
    · exact n3 (two_types hu (tN b h1))
    · exact n4 (two_types hu (tA b h1))
  -- the Shelves' block
  have nH : ∀ (v : Value) (u : TypeId), (∀ k, v.ownBlock = some k → ∃ c, w.heap[k]? = some (.cells c u (0, 0))) → u ≠ 66 → ∀ k, v.ownBlock = some k → k ≠ H := fun v u hv hu k hk e => hu (two_types (hv k hk) (e ▸ hHT))
  have H2 := hOn.blk h.at_.hH (fun hb => absurd (two_types hHT (hrT H hb)) (by decide))
  have H5 := hOn5.blk H2 (fun hb => nH _ 52 tN (by decide) H hb rfl)
  have H6 : (w5.setCell ⟨H, 0, none⟩ (.slice AN' (nn + 1) cN')).heap[H]? = some (.cells #[.slice AN' (nn + 1) cN', vO, .slice AA nn cA, vP] 66 (0, 0)) := blk_put H5 0 _ rfl
  have H7 := hOn7.blk H6 (fun hb => nH _ 3 tA (by decide) H hb rfl)
  have H8 : (w7.setCell ⟨H, 2, none⟩ (.slice AA' (nn + 1) cA')).heap[H]? = some (.cells #[.slice AN' (nn + 1) cN', vO, .slice AA' (nn + 1) cA', vP] 66 (0, 0)) := blk_put H7 2 _ rfl
  -- the new rows
  have hO5' : (w7.setCell ⟨H, 2, none⟩ (.slice AA' (nn + 1) cA')).ownsRow 0 52 1 (.slice AN' (nn + 1) cN') (nn + 1) (ss.map RE.v ++ [.slice r.A (r.n + r.rm) r.cap]) := by
    have t5 := fun k hk => own_typed hO5 k hk
    have nH5 : ∀ k, (Value.slice AN' (nn + 1) cN').ownBlock = some k → k ≠ H := fun k hk e => absurd (two_types (t5 k hk) ⟨_, e ▸ H5⟩) (by decide)
    have h6 := (Only.setCell (S := fun b => b = H) (w := w5) ⟨H, 0, none⟩ (.slice AN' (nn + 1) cN') rfl).own hO5 nH5
    have h7 := hOn7.own h6 (fun k hk hb => by
      rcases hB5 k hk with h1 | h1
      · exact absurd (two_types (tN k h1) (tA k hb)) (by decide)
      · obtain ⟨c, hc⟩ := tA k hb
        have := (Array.getElem?_eq_some_iff.1 hc).1
        omega)
    exact (Only.setCell (S := fun b => b = H) (w := w7) ⟨H, 2, none⟩ (.slice AA' (nn + 1) cA') rfl).own h7 nH5
  have hO7' : (w7.setCell ⟨H, 2, none⟩ (.slice AA' (nn + 1) cA')).ownsRow 0 3 1 (.slice AA' (nn + 1) cA') (nn + 1) (ss.map (fun r => .int .i64 r.n) ++ [.int .i64 r.n]) :=
    (Only.setCell (S := fun b => b = H) (w := w7) ⟨H, 2, none⟩ (.slice AA' (nn + 1) cA') rfl).own hO7 (fun k hk e => absurd (two_types (own_typed hO7 k hk) ⟨_, e ▸ H7⟩) (by decide))
  have hO8 := hA28.own hO (fun k hk hb => by
    rw [RE.own_block] at hk
    have := hrB k hk
    rcases hb with h1 | h1 | h1
    · omega
    · have := bbN k h1; omega
    · have := bbA k h1; omega)
  have hnew : ∀ b, b < w.heap.size → ¬ PrS B0 H (.slice AN nn cN) vO (.slice AA nn cA) vP b → ¬ PrS B0 H (.slice AN' (nn + 1) cN') vO (.slice AA' (nn + 1) cA') vP b := fun b hb hn hp => by
    refine hn ?_
    unfold PrS at hp ⊢
    rcases hp with h1 | h1 | h1 | h1 | h1 | h1
    · exact Or.inl h1
    · exact Or.inr (Or.inl h1)
    · rcases hB5 b h1 with h2 | h2
      · exact Or.inr (Or.inr (Or.inl h2))
      · omega
    · exact Or.inr (Or.inr (Or.inr (Or.inl h1)))
    · rcases hB7 b h1 with h2 | h2
      · exact Or.inr (Or.inr (Or.inr (Or.inr (Or.inl h2))))
      · omega
    · exact Or.inr (Or.inr (Or.inr (Or.inr (Or.inr h1))))
  have hm : ∀ r' ∈ es, ∀ b, r'.g = some b → ¬ T b := fun r' hr' b hb => by
    obtain ⟨i, hi⟩ := List.getElem?_of_mem hr'
    obtain ⟨ys, _, ho⟩ := h.rooms.mkd i r' hi
    exact hty b 31 (own_typed ho b (by unfold RE.v; rw [RE.own_block]; exact hb)) (by decide) (by decide) (by decide) (by decide)
  have hl1 : (ss ++ [r]).length = nn + 1 := by rw [List.length_append, List.length_singleton, hnn]
  have hvP : ∀ k, vP.ownBlock = some k → ¬ T k := fun k hk ht => by
    have tk := own_typed h.at_.hA k hk
    rw [hT] at ht
    rcases ht with h1 | h1 | h1 | h1
    · exact absurd (two_types tk (hrT k h1)) (by decide)
    · exact absurd (two_types tk (h1 ▸ hHT)) (by decide)
    · exact absurd (two_types tk (tN k h1)) (by decide)
    · exact h.two k h1 hk
  have hbN' : ∀ k, (Value.slice AN' (nn + 1) cN').ownBlock = some k → B0 ≤ k := fun k hk => (hB5 k hk).elim (bbN k) (fun h1 => by omega)
  have hbA' : ∀ k, (Value.slice AA' (nn + 1) cA').ownBlock = some k → B0 ≤ k := fun k hk => (hB7 k hk).elim (bbA k) (fun h1 => by omega)
  have hpL : ∀ r' ∈ ss ++ [r], ∀ b, r'.g = some b → b < B0 := fun r' hr' b hb => by
    rcases List.mem_append.1 hr' with h1 | h1
    · exact h.pS r' h1 b hb
    · rw [List.mem_singleton.1 h1] at hb
      exact hrB b hb
  refine ⟨⟨_, vO, _, vP, ⟨⟨H8, (by rw [hl1, List.map_append]; exact hO5'), hAll.own h.at_.hN (fun k hk => hty k 69 (own_typed h.at_.hN k hk) (by decide) (by decide) (by decide) (by decide)), (by rw [hl1, List.map_append]; exact hO7'), hAll.own h.at_.hA hvP⟩, ?_, ?_, hbN', h.bN, hbA', h.bA, h.bH, ?_, ?_, hpL, h.pN, h.pE⟩⟩, fun E hE => ?_, hAll.mono (fun b _ hb => ?_)⟩
  · refine rooms_move h.rooms hAll (fun b hb => ?_) hnew hm (fun r' hr' b hb => Or.inl (h.pE r' hr' b hb))
    rw [hT] at hb
    rcases hb with h1 | h1 | h1 | h1
    · exact Or.inl (hrB b h1)
    · exact Or.inr (Or.inl h1)
    · exact Or.inr (Or.inr (Or.inl h1))
    · exact Or.inr (Or.inr (Or.inr (Or.inr (Or.inl h1))))
  · exact fun k hk he => (hB7 k hk).elim (fun h1 => h.two k h1 he) (fun h1 => by have := own_lt h.at_.hA k he; omega)
  · exact marks_snoc hnn (fun i r' hi => (h.mS i r' hi).only hAll (fun b hb => hlow b (h.pS r' (List.mem_of_getElem? hi) b hb) (hd r' (List.mem_of_getElem? hi) b hb))) ⟨xs, hX.1, hO8⟩
  · exact fun i r' hi => (h.mN i r' hi).only hAll (fun b hb => by obtain ⟨ys, _, ho⟩ := h.mN i r' hi; exact hty b 73 (own_typed ho b (by unfold RE.v; rw [RE.own_block]; exact hb)) (by decide) (by decide) (by decide) (by decide))
  · by_cases hk : r.g = some E.b
    · have := key_inj hN hE (hr _ hk) rfl
      rw [this]
      have hA : r.A = some ⟨E.b, 0, none⟩ := by unfold RE.A; rw [hk]; rfl
      have h8 := own_prefix hO8 hX.1 (by rw [hA]; simp) (Nat.le_add_right _ _)
      rw [hA] at h8
      exact h8
    · exact (hL E hE).only hAll (hlow _ (hLB _ (List.mem_map.2 ⟨E, hE, rfl⟩)) hk)
  · rw [hT] at hb
    rcases hb with h1 | h1 | h1 | h1
    · exact Or.inr (List.mem_map.2 ⟨_, hr b h1, rfl⟩)
    · exact Or.inl (by omega)
    · exact Or.inl (bbN b h1)
    · exact Or.inl (bbA b h1)
end Go.Proofs.Ytgnifglolbfamaa

/- (*Shelves).answer: all lists of a layout are grown. -/
set_option linter.unusedVariables false
set_option linter.unusedSimpArgs false
namespace Go.Proofs.Ytgnifglolbfamaa
open Go.RowKit Go.Proofs.YtgnifglolbfamaaW.PrintWords

def growN (l : List TG) : List RE := l.flatMap (fun y => growH y.c)
def growS (s : TS) : List RE := growH s.b ++ growH s.t ++ growH s.c ++ growN s.n.2.2
def growSs (l : List TS) : List RE := l.flatMap growS
def growL (y : Lay) : List RE := growH y.fin ++ growSs y.l
def negsOf (l : List TS) : List RE := l.map (fun s => reN s.n)
def stgRE (y : Lay) : RE := ⟨some y.S, y.l.length, y.l.length⟩
theorem perm_N (l : List TG) : (keys (l.flatMap (fun y => entH y.c))).Perm (gs (growN l)) := by
  induction l with
  | nil => exact List.Perm.refl _
  | cons x l ih =>
    unfold growN at ih ⊢
    rw [List.flatMap_cons, List.flatMap_cons, keys_append, gs_append]
    exact (gs_growH x.c).symm.append ih
theorem perm_S (s : TS) : (keys (entS s)).Perm (gs [reN s.n] ++ gs (growS s)) := by
  unfold entS entN growS
  simp only [keys_append, gs_append]
  have h0 : keys (entX3 s.n.1 s.n.2.1 s.n.2.2) = gs [reN s.n] := by unfold reN; cases s.n.1 <;> rfl
  rw [h0, List.append_assoc]
  refine List.Perm.append_left _ ?_
  refine ((perm_N s.n.2.2).append ((gs_growH s.b).symm.append ((gs_growH s.t).symm.append (gs_growH s.c).symm))).trans ?_
  refine List.perm_append_comm.trans ?_
  rw [List.append_assoc, List.append_assoc, List.append_assoc, List.append_assoc]
theorem perm_Ss (l : List TS) : (keys (l.flatMap entS)).Perm (gs (negsOf l) ++ gs (growSs l)) := by
  induction l with
  | nil => exact List.Perm.refl _
  | cons s l ih =>
    unfold negsOf growSs at ih ⊢
    rw [List.flatMap_cons, List.flatMap_cons, keys_append, List.map_cons, gs_append, show gs (reN s.n :: l.map (fun s => reN s.n)) = gs [reN s.n] ++ gs (l.map (fun s => reN s.n)) from gs_append [reN s.n] _]
    refine ((perm_S s).append ih).trans ?_
    simp only [List.append_assoc]
    refine List.Perm.append_left _ ?_
    simp only [← List.append_assoc]
    exact List.Perm.append_right _ List.perm_append_comm
theorem perm_L (y : Lay) : (keys (entL y)).Perm ((y.S :: gs (negsOf y.l)) ++ gs (growL y)) := by
  unfold entL growL
  rw [gs_append]
  show (y.S :: keys (entH y.fin ++ y.l.flatMap entS)).Perm _
  rw [keys_append, List.cons_append]
  refine List.Perm.cons _ ?_
  refine ((gs_growH y.fin).symm.append (perm_Ss y.l)).trans ?_
  simp only [← List.append_assoc]
  exact List.Perm.append_right _ List.perm_append_comm

theorem row_at {α : Type} {w : World} {e : TypeId} {sz S cap : Nat} {l : List α} {f : α → List Value} (hf : ∀ x, (f x).length = sz) (h : w.ownsRow 0 e sz (.slice (some ⟨S, 0, none⟩) l.length cap) l.length (l.flatMap f)) (i : Nat) (hi : i < l.length) : ∀ c, c < sz → w.cell? ⟨S, i * sz + c, none⟩ = (f l[i])[c]? := by
  intro c hc
  have hlt : i * sz + c < l.length * sz := by
    have : i * sz + sz ≤ l.length * sz := by rw [← Nat.succ_mul]; exact Nat.mul_le_mul_right _ hi
    omega
  rw [h.cellAt _ hlt]
  have := congrArg (fun z => z[c]?) (flat_at f sz l (fun x _ => hf x) i _ (List.getElem?_eq_getElem hi))
  simp only [List.getElem?_take, if_pos hc, List.getElem?_drop] at this
  exact this
theorem stage_at {w : World} {L : List Ent} {y : Lay} (hL : AllOwn w L) (hy : ∀ E ∈ entL y, E ∈ L) {ad : Addr} (had : ad = ⟨y.S, 0, none⟩) (i : Nat) (hi : i < y.l.length) :
    w.cell? ⟨(ad.add (i * 7)).block, (ad.add (i * 7)).off + 3, none⟩ = some (svT y.l[i].n) ∧ w.cell? ⟨(ad.add (i * 7)).block, (ad.add (i * 7)).off + 4, none⟩ = some (svT y.l[i].b) ∧
    w.cell? ⟨(ad.add (i * 7)).block, (ad.add (i * 7)).off + 5, none⟩ = some (svT y.l[i].t) ∧ w.cell? ⟨(ad.add (i * 7)).block, (ad.add (i * 7)).off + 6, none⟩ = some (svT y.l[i].c) := by
  have hr := row_at (sz := 7) (e := 71) (f := cellsS) (fun _ => rfl) (hL _ (hy _ List.mem_cons_self)) i hi
  subst had
  rw [add_plain]
  exact ⟨hr 3 (by decide), hr 4 (by decide), hr 5 (by decide), hr 6 (by decide)⟩
theorem neg_at {w : World} {x : HG} (hw : WfN x) (h : AllOwn w (entX3 x.1 x.2.1 x.2.2)) (j : Nat) (hj : j < x.2.2.length) : ∃ ad, x.1.map (fun g => (⟨g, 0, none⟩ : Addr)) = some ad ∧ w.cell? ⟨(ad.add (j * 3)).block, (ad.add (j * 3)).off + 2, none⟩ = some (svT x.2.2[j].c) := by
  obtain ⟨g, cap, l⟩ := x
  cases g with
  | none =>
    have := (hw.1 rfl).2
    simp only at this hj
    subst this
    exact absurd hj (by simp)
  | some g =>
    have hr := row_at (f := cellsG) (fun _ => rfl) (own_N hw h) j hj
    refine ⟨⟨g, 0, none⟩, rfl, ?_⟩
    rw [add_plain]
    exact hr 2 (by decide)
def AnsPost (L : List Ent) (G H B0 : Nat) (es ss ns : List RE) (w : World) (e : Ending) (w' : World) : Prop :=
  e = .returned (.tuple #[]) ∧ ShOk w' G H B0 es ss ns ∧ AllOwn w' L ∧ Only (fun b => B0 ≤ b ∨ b ∈ keys L) w w'
/-- The state between two steps of an answer. -/
structure AnsSt (L : List Ent) (G H B0 : Nat) (w0 : World) (es ss ns : List RE) (w : World) : Prop where
  sh : ShOk w G H B0 es ss ns
  own : AllOwn w L
  only : Only (fun b => B0 ≤ b ∨ b ∈ keys L) w0 w
theorem AnsSt.step {L : List Ent} {G H B0 : Nat} {w0 w w' : World} {es es' ss ns ss' ns' : List RE} (h : AnsSt L G H B0 w0 es ss ns w) (h1 : ShOk w' G H B0 es' ss' ns') (h2 : AllOwn w' L) (h3 : Only (fun b => B0 ≤ b ∨ b ∈ keys L) w w') : AnsSt L G H B0 w0 es' ss' ns' w' := ⟨h1, h2, h.only.same h3⟩
/-- How a list's growth is called for. -/
theorem AnsSt.each {L : List Ent} (hN : (keys L).Nodup) {G H B0 : Nat} {w0 w : World} {es ss ns : List RE} (h : AnsSt L G H B0 w0 es ss ns w) (x : HX) (hN2 : exNL (x.2.2.map exT) ≤ 100000000000) (hW : WfH x) (hx : ∀ E ∈ entH x, E ∈ L) (hxN : (keys (entH x)).Nodup)
    (hLB : ∀ b ∈ keys L, b < B0) (hnd : (gs (es ++ growH x)).Nodup) (hlen : (es ++ growH x).length ≤ 1000000000) :
    Calls Try.prog 46 #[.pointer (some ⟨G, 0, none⟩), svT x] w fun e w' => e = .returned (.tuple #[]) ∧ AnsSt L G H B0 w0 (es ++ growH x) ss ns w' := by
  refine (sh_each L hN x hN2 hW hx hxN G H B0 es ss ns w h.sh h.own hLB hnd hlen _ rfl).mono ?_
  rintro e w' ⟨rfl, h1, h2, h3⟩
  exact ⟨rfl, h.step h1 h2 h3⟩
end Go.Proofs.Ytgnifglolbfamaa
