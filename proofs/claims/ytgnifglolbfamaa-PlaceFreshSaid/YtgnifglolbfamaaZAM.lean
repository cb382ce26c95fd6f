/- Texts of the claim, merged in build order: QG, QH, PnA, PnB. -/
import Derived.Test.YtgnifglolbfamaaZAK
import Derived.Deep.AppendLies
import Derived.Test.YtgnifglolbfamaaZAE
import Derived.Laws.EntriesVeiled
import Derived.StillTailTactics
/- PlaceFresh's ledger: what may be written (Only), an append in place (app_in), the blocks of a tree's lists with all that they hold (ents). -/
set_option linter.unusedVariables false
set_option linter.unusedSimpArgs false
namespace Go.Proofs.Ytgnifglolbfamaa
open Go.RowKit Go.Proofs.YtgnifglolbfamaaW.PrintWords

/-- All blocks that were there, those of S aside, are as they were. -/
structure Only (S : Nat → Prop) (w w' : World) : Prop where
  os : w'.os = w.os
  tape : w'.tape = w.tape
  output : w'.output = w.output
  size : w.heap.size ≤ w'.heap.size
  block : ∀ k, k < w.heap.size → ¬ S k → w'.heap[k]? = w.heap[k]?
namespace Only
variable {S T : Nat → Prop} {w w1 w2 : World}
theorem refl (S : Nat → Prop) (w : World) : Only S w w := ⟨rfl, rfl, rfl, Nat.le_refl _, fun _ _ _ => rfl⟩
theorem trans (h : Only S w w1) (k : Only T w1 w2) (hs : ∀ b, b < w.heap.size → T b → S b) : Only S w w2 :=
  ⟨k.os.trans h.os, k.tape.trans h.tape, k.output.trans h.output, Nat.le_trans h.size k.size, fun i hi hn => (k.block i (Nat.lt_of_lt_of_le hi h.size) (fun ht => hn (hs i hi ht))).trans (h.block i hi hn)⟩
theorem same (h : Only S w w1) (k : Only S w1 w2) : Only S w w2 := h.trans k (fun _ _ h => h)
theorem mono (h : Only S w w1) (hs : ∀ b, b < w.heap.size → S b → T b) : Only T w w1 := ⟨h.os, h.tape, h.output, h.size, fun i hi hn => h.block i hi (fun x => hn (hs i hi x))⟩
theorem of_below (h : Below w.heap.size w w1) : Only S w w1 := ⟨h.os, h.tape, h.output, h.size, fun i hi _ => h.block i hi⟩
theorem of_belowB {B : Nat} (h : Below B w w1) (hs : ∀ b, B ≤ b → S b) : Only S w w1 := ⟨h.os, h.tape, h.output, h.size, fun i hi hn => h.block i (Nat.lt_of_not_le (fun hb => hn (hs i hb)))⟩
theorem below {B : Nat} (h : Only S w w1) (hB : B ≤ w.heap.size) (hs : ∀ b, b < B → ¬ S b) : Below B w w1 := ⟨h.os, h.tape, h.output, h.size, fun i hi => h.block i (Nat.lt_of_lt_of_le hi hB) (hs i hi)⟩
theorem setCell (a : Addr) (v : Value) (ha : S a.block) : Only S w (w.setCell a v) := ⟨rfl, rfl, rfl, by simp [World.setCell], fun k _ hn => Below.heap_setCell _ _ _ _ (fun e => hn (e ▸ ha))⟩
theorem alloc (o : Obj) : Only S w (w.alloc o) := of_below ((Below.refl _ _).alloc (Nat.le_refl _) o)
theorem drew : Only S w w.drew := of_below (Below.refl _ _).drew
theorem drewN (n : Nat) : Only S w (w.drewN n) := of_below (pw_below_drewN (Below.refl _ _) n)
theorem grown {row : Option Nat} (hg : w.grownBy w1 row) (hr : ∀ k, row = some k → S k) : Only S w w1 :=
  ⟨hg.os, hg.tape, hg.output, hg.size, fun k hk hn => hg.block k hk (fun e => hn (hr k e.symm))⟩
theorem blk {g : Nat} {o : Obj} (h : Only S w w1) (hb : w.heap[g]? = some o) (hn : ¬ S g) : w1.heap[g]? = some o :=
  (h.block g (Array.getElem?_eq_some_iff.1 hb).1 hn).trans hb
theorem own {base : Nat} {e : TypeId} {sz n : Nat} {v : Value} {xs : List Value} (h : Only S w w1) (ho : w.ownsRow base e sz v n xs) (hn : ∀ k, v.ownBlock = some k → ¬ S k) : w1.ownsRow base e sz v n xs :=
  own_move ho (fun k hk => h.block k (own_lt ho k hk) (hn k hk))
end Only

section
variable {P : Program} {ops : Array Oper} {rest : List Oper} {o : Oper} {a : Act} {Q : Exit → Act → World → Prop}
/-- append(v, x) where there is room: in place. -/
theorem app_in {W : World} (H : Nat) (hH : W.heap.size = H) (hgd : o.guard = none) (s x : Operand) (t e : TypeId) (z : Value) (size bytes : Nat)
    (ho : o.op = .call { callee := .builtin .append, args := #[s, x], argTypes := #[t, t] })
    (ht : P.underlying t = some (.slice e)) (hinfo : (P.info? e).map (fun i => (i.zero, i.size, i.bytes)) = some (some z, size, bytes))
    (base : Nat) (A : Option Addr) (n cap : Nat) (xs ys : List Value) (hO : W.ownsRow base e size (.slice A n cap) n xs) (hn : n < cap)
    (hs : a.eval s = .slice A n cap) (hx : a.eval x = .slice (some ⟨H, 0, none⟩) 1 1) (hys : ys.length = size) (h1 : ∀ u ∈ ys, u.oneCell' = true)
    (h : ∀ w1, Hid (w1.ownsRow base e size (.slice A (n + 1) cap) (n + 1) (xs ++ ys)) → Hid (Only (fun k => (Value.slice A n cap).ownBlock = some k) W w1) → wpList P ops Q rest (a.put o.dst (.slice A (n + 1) cap)) w1) :
    wpList P ops Q (o :: rest) a (W.alloc (.cells ys.toArray e)) := by
  subst hH
  obtain ⟨i0, hi, hzz⟩ := Option.map_eq_some_iff.1 hinfo
  simp only [Prod.mk.injEq] at hzz
  obtain ⟨hz0, hz1, hz2⟩ := hzz
  obtain ⟨hl, hh⟩ := hO
  rcases hh with ⟨he, h0⟩ | ⟨g, cap', cur, he, hb, hg, hnc, hm, hcs, htk⟩
  · injection he with h1 h2 h3
    omega
  injection he with e1 e2 e3
  subst e1
  subst e3
  have hb2 : (W.alloc (.cells ys.toArray e)).heap[g]? = some (.cells cur e (0, 0)) := (Below.heap_alloc W _ _ (Array.getElem?_eq_some_iff.1 hg).1).trans hg
  have hfit : n * size + ys.length ≤ cur.size := by rw [hys, hcs, ← Nat.succ_mul]; exact Nat.mul_le_mul_right _ hn
  have hr := run_append_room (P := P) (W.alloc (.cells ys.toArray e)) t o.type e i0 ht hi g n cap cur hb2 ⟨W.heap.size, 0, none⟩ 1 1 ys (by rw [hz1, hys]; simp)
    (by simpa using World.news_of_block (cs := ys.toArray) (t := e) (fr := (0, 0)) (heap_alloc_new W (.cells ys.toArray e))) h1 (by omega) (by rw [hz1]; exact hfit)
  rw [hz1] at hr
  refine wpList_plain hgd fun K hK => ?_
  unfold Oper.wp execOp
  simp only [ho, resolve, invoke, builtin, Sem.run_bind, Sem.run_pure, Result.andThen_ok, List.map_toArray, List.map_cons, List.map_nil, hs, hx, hr]
  refine hK _ _ ?_
  have hxl : xs.length = n * size := hl
  refine h _ (Lib.hid ⟨by rw [List.length_append, hl, hys, Nat.succ_mul], .inr ⟨g, cap, _, rfl, hb, setRow_heap _ g cur _ e _ hb2, hn, hm, ?_, ?_⟩⟩) (Lib.hid ((Only.alloc _).same ⟨rfl, rfl, rfl, by simp, fun k _ hn => setRow_other _ g k _ (fun e => hn (by rw [e]; rfl))⟩))
  · simp only [List.size_toArray, List.length_append, List.length_take, List.length_drop, Array.length_toList]
    omega
  · show List.take _ _ = _
    rw [List.toList_toArray, htk, List.append_assoc, ← List.append_assoc, List.take_append_of_le_length (by rw [List.length_append, hl, hys, Nat.succ_mul]; exact Nat.le_refl _), List.take_of_length_le (by rw [List.length_append, hl, hys, Nat.succ_mul]; exact Nat.le_refl _)]
end

/-- A block with a list: its number, its type, the elements' size, how many there are, how many there may be, what they hold. -/
structure Ent where
  b : Nat
  e : TypeId
  sz : Nat
  n : Nat
  cap : Nat
  vals : List Value
def Own (w : World) (E : Ent) : Prop := w.ownsRow 0 E.e E.sz (.slice (some ⟨E.b, 0, none⟩) E.n E.cap) E.n E.vals
def AllOwn (w : World) (L : List Ent) : Prop := ∀ E ∈ L, Own w E
def keys (L : List Ent) : List Nat := L.map (·.b)
theorem Own.lt {w : World} {E : Ent} (h : Own w E) : E.b < w.heap.size := own_lt h E.b rfl
theorem Own.blk {w : World} {E : Ent} (h : Own w E) : ∃ cur, w.heap[E.b]? = some (.cells cur E.e (0, 0)) := own_typed h E.b rfl
theorem Own.only {w w' : World} {E : Ent} {S : Nat → Prop} (h : Own w E) (ho : Only S w w') (hn : ¬ S E.b) : Own w' E := ho.own h (fun k hk => by
  have : E.b = k := by simpa [Value.ownBlock] using hk
  exact this ▸ hn)
theorem AllOwn.only {w w' : World} {L : List Ent} {S : Nat → Prop} (h : AllOwn w L) (ho : Only S w w') (hn : ∀ b ∈ keys L, ¬ S b) : AllOwn w' L := fun E hE => (h E hE).only ho (hn _ (List.mem_map.2 ⟨E, hE, rfl⟩))
theorem AllOwn.lt {w : World} {L : List Ent} (h : AllOwn w L) : ∀ b ∈ keys L, b < w.heap.size := by
  intro b hb
  obtain ⟨E, hE, rfl⟩ := List.mem_map.1 hb
  exact (h E hE).lt
theorem AllOwn.sub {w : World} {L L' : List Ent} (h : AllOwn w L) (hs : ∀ E ∈ L', E ∈ L) : AllOwn w L' := fun E hE => h E (hs E hE)
theorem AllOwn.append {w : World} {L L' : List Ent} (h : AllOwn w L) (h' : AllOwn w L') : AllOwn w (L ++ L') := fun E hE => (List.mem_append.1 hE).elim (h E) (h' E)
theorem keys_append (L L' : List Ent) : keys (L ++ L') = keys L ++ keys L' := List.map_append
theorem key_inj {L : List Ent} (hn : (keys L).Nodup) {E E' : Ent} (h : E ∈ L) (h' : E' ∈ L) (e : E.b = E'.b) : E = E' := by
  induction L with
  | nil => cases h
  | cons x l ih =>
    unfold keys at hn
    rw [List.map_cons, List.nodup_cons] at hn
    rcases List.mem_cons.1 h with rfl | h1
    · rcases List.mem_cons.1 h' with rfl | h2
      · rfl
      · exact absurd (List.mem_map.2 ⟨E', h2, e.symm⟩) hn.1
    · rcases List.mem_cons.1 h' with rfl | h2
      · exact absurd (List.mem_map.2 ⟨E, h1, e⟩) hn.1
      · exact ih hn.2 h1 h2
/-- What is held by a row that was grown is held by its head. -/
theorem own_prefix {w : World} {base : Nat} {e : TypeId} {sz n m cap : Nat} {A : Option Addr} {xs ys : List Value} (h : w.ownsRow base e sz (.slice A m cap) m (xs ++ ys)) (hl : xs.length = n * sz) (hA : A ≠ none) (hnm : n ≤ m) : w.ownsRow base e sz (.slice A n cap) n xs := by
  refine ⟨hl, ?_⟩
  rcases h.2 with ⟨he, h0⟩ | ⟨g, cap', cur, he, hb, hg, hnc, hm, hcs, htk⟩
  · injection he with h1 h2 h3
    exact absurd h1 hA
  · injection he with e1 e2 e3
    subst e1
    subst e3
    refine .inr ⟨g, cap, cur, rfl, hb, hg, by omega, hm, hcs, ?_⟩
    have := congrArg (List.take (n * sz)) htk
    rw [List.take_take, Nat.min_eq_left (Nat.mul_le_mul_right _ hnm), ← hl, List.take_left] at this
    rw [← hl]
    exact this

/-- What an expression's cells hold. -/
def cellsT (t : TX) : List Value := [.int .i64 t.f0, .int .i64 t.f1, .int .i64 t.f2.f0, .int .i64 t.f2.f1, .string t.f2.f2, .bool t.f2.f3, .string t.f3, .int .i64 t.f4, .string t.f5, t.v]
abbrev HX := Option Nat × Nat × List TX
def TX.h (t : TX) : HX := (t.g, t.cap, t.kids)
def entX (g : Option Nat) (cap : Nat) (ts : List TX) : List Ent := match g with
  | some g => [⟨g, 31, 10, ts.length, cap, ts.flatMap cellsT⟩]
  | none => []
mutual
/-- The blocks of a tree. -/
def entT : TX → List Ent
  | .mk _ _ _ _ _ _ g cap k => entX g cap k ++ entTs k
def entTs : List TX → List Ent
  | [] => []
  | x :: l => entT x ++ entTs l
end
theorem entTs_eq : ∀ l : List TX, entTs l = l.flatMap entT
  | [] => by rw [entTs]; rfl
  | x :: l => by rw [entTs, entTs_eq l]; rfl
/-- The blocks of a list of trees. -/
def entH (x : HX) : List Ent := entX x.1 x.2.1 x.2.2 ++ x.2.2.flatMap entT
theorem entT_eq (x : TX) : entT x = entH x.h := by
  cases x with
  | mk a b c d e f g cap k => rw [entT, entTs_eq]; rfl
theorem keys_entX (g : Option Nat) (cap : Nat) (ts : List TX) : keys (entX g cap ts) = g.toList := by cases g <;> rfl
theorem keys_flat {α : Type} (f : α → List Ent) (l : List α) : keys (l.flatMap f) = l.flatMap (fun x => keys (f x)) := by
  unfold keys
  rw [List.map_flatMap]
mutual
theorem keys_entT : ∀ x : TX, keys (entT x) = blT x
  | .mk a b c d e f g cap k => by rw [entT, blT, keys_append, keys_entX, keys_entTs0 k]
theorem keys_entTs0 : ∀ l : List TX, keys (entTs l) = blTs l
  | [] => by rw [entTs, blTs]; rfl
  | x :: l => by rw [entTs, blTs, keys_append, keys_entT x, keys_entTs0 l]
end
theorem keys_entTs (l : List TX) : keys (l.flatMap entT) = l.flatMap blT := by
  rw [keys_flat, List.flatMap_def, List.flatMap_def]
  exact congrArg _ (List.map_congr_left (fun x _ => keys_entT x))
theorem keys_entH (x : HX) : keys (entH x) = x.1.toList ++ x.2.2.flatMap blT := by
  unfold entH
  rw [keys_append, keys_entX, keys_entTs]
/-- A nil list has no elements and no room. -/
inductive WfT : TX → Prop where
  | mk (t : TX) (h : t.g = none → t.cap = 0 ∧ t.kids = []) (hk : ∀ k ∈ t.kids, WfT k) : WfT t
def WfH (x : HX) : Prop := (x.1 = none → x.2.1 = 0 ∧ x.2.2 = []) ∧ ∀ k ∈ x.2.2, WfT k
theorem WfT.hd {t : TX} (h : WfT t) : WfH t.h := by cases h with | mk _ h hk => exact ⟨h, hk⟩
end Go.Proofs.Ytgnifglolbfamaa

/- The blocks of trees: from a list that the call owns, and back to what it reads as. -/
set_option linter.unusedVariables false
set_option linter.unusedSimpArgs false
namespace Go.Proofs.Ytgnifglolbfamaa
open Go.RowKit Go.Proofs.YtgnifglolbfamaaW.PrintWords

theorem flat_len {α : Type} (f : α → List Value) (sz : Nat) : ∀ l : List α, (∀ x ∈ l, (f x).length = sz) → (l.flatMap f).length = l.length * sz
  | [], _ => by simp
  | x :: l, h => by rw [List.flatMap_cons, List.length_append, h x List.mem_cons_self, flat_len f sz l (fun y hy => h y (List.mem_cons_of_mem _ hy)), List.length_cons, Nat.succ_mul, Nat.add_comm]
theorem flat_at {α : Type} (f : α → List Value) (sz : Nat) : ∀ (l : List α), (∀ x ∈ l, (f x).length = sz) → ∀ j p, l[j]? = some p → ((l.flatMap f).drop (j * sz)).take sz = f p
  | [], _, j, p, h => by simp at h
  | x :: l, h, 0, p, hj => by
    have : x = p := by simpa using hj
    subst this
    rw [Nat.zero_mul, List.drop_zero, List.flatMap_cons]
    exact List.take_left' (h x List.mem_cons_self)
  | x :: l, h, j + 1, p, hj => by
    rw [List.flatMap_cons, Nat.succ_mul, Nat.add_comm, ← List.drop_drop, List.drop_left' (h x List.mem_cons_self)]
    exact flat_at f sz l (fun y hy => h y (List.mem_cons_of_mem _ hy)) j p (by simpa using hj)
theorem flat_of {α : Type} (f : α → List Value) (sz : Nat) : ∀ (l : List α) (inner : List Value), inner.length = l.length * sz → (∀ j p, l[j]? = some p → (inner.drop (j * sz)).take sz = f p) → inner = l.flatMap f
  | [], inner, h, _ => by
    have : inner.length = 0 := by simpa using h
    rw [List.eq_nil_of_length_eq_zero this]; rfl
  | x :: l, inner, h, hj => by
    have h0 := hj 0 x rfl
    rw [Nat.zero_mul, List.drop_zero] at h0
    have hl : (inner.drop sz).length = l.length * sz := by rw [List.length_drop, h, List.length_cons, Nat.succ_mul]; omega
    have h1 := flat_of f sz l (inner.drop sz) hl (fun j p hp => by
      have := hj (j + 1) p (by simpa using hp)
      rw [Nat.succ_mul, Nat.add_comm, ← List.drop_drop] at this
      exact this)
    rw [List.flatMap_cons, ← h0, ← h1, List.take_append_drop]
theorem cellsT_len (t : TX) : (cellsT t).length = 10 := rfl
theorem cellsT_one (t : TX) : ∀ u ∈ cellsT t, u.oneCell' = true := by
  intro u hu
  simp only [cellsT, List.mem_cons, List.not_mem_nil, or_false] at hu
  rcases hu with rfl | rfl | rfl | rfl | rfl | rfl | rfl | rfl | rfl | rfl <;> rfl
theorem reps_flat {α β : Type} (f : α → List Value) (g : α → β) (R : β → List Value → Prop) (sz : Nat) (l : List α) (hf : ∀ x ∈ l, (f x).length = sz) (hR : ∀ x ∈ l, R (g x) (f x)) : Reps R sz (l.map g) (l.flatMap f) := by
  refine ⟨by rw [flat_len f sz l hf, List.length_map], fun j p hj => ?_⟩
  rw [List.getElem?_map] at hj
  obtain ⟨q, hq, rfl⟩ := Option.map_eq_some_iff.1 hj
  rw [flat_at f sz l hf j q hq]
  exact hR q (List.mem_of_getElem? hq)

theorem R_entX {w : World} {base : Nat} {ok : Nat → Prop} {g : Option Nat} {cap : Nat} {ts : List TX} {d : Kd TX} (hsz : d.sz = 10) (hd : ∀ ok x cs, d.M w base ok x cs → cs = cellsT x) (h : d.R 31 w base ok (svT (g, cap, ts)) ts) : (g = none → cap = 0 ∧ ts = []) ∧ AllOwn w (entX g cap ts) := by
  obtain ⟨h0, inner, ho, hr⟩ := h
  rw [hsz] at ho hr
  have hi : inner = ts.flatMap cellsT := flat_of cellsT 10 ts inner hr.1 (fun j p hj => hd _ _ _ (hr.2 j p hj))
  subst hi
  cases g with
  | none =>
    refine ⟨fun _ => ?_, fun E hE => by cases hE⟩
    rcases ho.2 with ⟨he, h0⟩ | ⟨g, cap', cur, he, _⟩
    · unfold svT at he
      injection he with h1 h2 h3
      exact ⟨h3, List.eq_nil_of_length_eq_zero h0⟩
    · unfold svT at he
      injection he with h1 h2 h3
      cases h1
  | some g =>
    refine ⟨fun h => (by cases h), fun E hE => ?_⟩
    have : E = ⟨g, 31, 10, ts.length, cap, ts.flatMap cellsT⟩ := by simpa [entX] using hE
    subst this
    exact own_less ho (Nat.zero_le _)
theorem M_ents {w : World} {base : Nat} : ∀ (n : Nat) (ok : Nat → Prop) (x : TX) (cs : List Value), (Kd.upto fT 10 [31] n).M w base ok x cs → cs = cellsT x ∧ WfT x ∧ AllOwn w (entT x)
  | 0, _, _, _, h => h.elim
  | n + 1, ok, x, cs, h => by
    obtain ⟨_, _, rfl, rfl, ⟨_, _, rfl, rfl, ⟨_, _, rfl, s2, ⟨_, _, rfl, rfl, ⟨_, _, rfl, rfl, ⟨_, _, rfl, rfl, ⟨rfl, g9⟩⟩⟩⟩⟩⟩⟩ := h
    obtain rfl := kVal_openM s2
    have hx := R_entX (szT n) (fun ok y cs hy => (M_ents n ok y cs hy).1) g9
    have hk : ∀ k ∈ x.kids, WfT k ∧ AllOwn w (entT k) := fun k hk => by
      obtain ⟨c, hM⟩ := R_mem g9 k hk
      exact (M_ents n _ k c hM).2
    refine ⟨rfl, .mk x hx.1 (fun k h => (hk k h).1), ?_⟩
    rw [entT_eq]
    refine AllOwn.append hx.2 (fun E hE => ?_)
    obtain ⟨k, hkm, hE⟩ := List.mem_flatMap.1 hE
    exact (hk k hkm).2 E hE
theorem R_ents {w : World} {base : Nat} {ok : Nat → Prop} {x : HX} (h : kT.R 31 w base ok (svT x) x.2.2) : WfH x ∧ AllOwn w (entH x) := by
  have hx := R_entX (d := kT) (g := x.1) (cap := x.2.1) (ts := x.2.2) rfl (fun ok y cs hM => by obtain ⟨n, hy⟩ := hM; exact (M_ents n ok y cs hy).1) h
  have hk : ∀ k ∈ x.2.2, WfT k ∧ AllOwn w (entT k) := fun k hk => by
    obtain ⟨c, n, hM⟩ := R_mem h k hk
    exact (M_ents n _ k c hM).2
  refine ⟨⟨hx.1, fun k h => (hk k h).1⟩, AllOwn.append hx.2 (fun E hE => ?_)⟩
  obtain ⟨k, hkm, hE⟩ := List.mem_flatMap.1 hE
  exact (hk k hkm).2 E hE

/-- A list's row. -/
theorem own_H {w : World} {x : HX} (hw : WfH x) (h : AllOwn w (entX x.1 x.2.1 x.2.2)) : w.ownsRow 0 31 10 (svT x) x.2.2.length (x.2.2.flatMap cellsT) := by
  obtain ⟨g, cap, ts⟩ := x
  cases g with
  | none =>
    obtain ⟨h1, h2⟩ := hw.1 rfl
    simp only at h1 h2
    subst h1 h2
    exact own_nil _ _ _ _
  | some g => exact h _ (List.mem_singleton.2 rfl)
theorem cap_H {w : World} {x : HX} (hw : WfH x) (h : AllOwn w (entX x.1 x.2.1 x.2.2)) : x.2.2.length ≤ x.2.1 := by
  have ho := own_H hw h
  exact own_cap ho
theorem read_K {w : World} {t : TX} (h : WfT t) : AllOwn w (entT t) → kEx.K w (exT t) (cellsT t) := by
  induction h with
  | mk t h hk ih =>
    intro ha
    rw [entT_eq] at ha
    have hx : AllOwn w (entX t.g t.cap t.kids) := ha.sub (fun E hE => List.mem_append_left _ hE)
    have hw : WfH t.h := ⟨h, hk⟩
    have ho := own_H hw hx
    obtain ⟨A, c, hv, hC⟩ := own_reads_row ho (reps_flat cellsT exT (kEx.K w) 10 t.kids (fun _ _ => rfl) (fun k hkm => ih k hkm (ha.sub (fun E hE => List.mem_append_right _ (List.mem_flatMap.2 ⟨k, hkm, hE⟩))))) (by rw [List.length_map]; rfl)
    unfold svT at hv
    injection hv with h1 h2 h3
    have hC' : kEx.C w (t.g.map (fun g => ⟨g, 0, none⟩)) (t.kids.map exT).length (t.kids.map exT) := by
      rw [List.length_map]
      have : A = t.g.map (fun g => ⟨g, 0, none⟩) := h1.symm
      rw [← this]
      exact hC
    have hmk := kEx_mk w (exT t) (A9 := t.g.map (fun g => ⟨g, 0, none⟩)) (c9 := t.cap) (by rw [exT_eq]; show (t.kids.map exT).length ≤ t.cap; rw [List.length_map]; exact cap_H hw hx) (by rw [exT_eq]; exact hC')
    rw [exT_eq] at hmk ⊢
    simp only [List.length_map] at hmk
    exact hmk
theorem read_H {w : World} {x : HX} (hw : WfH x) (ha : AllOwn w (entH x)) : kEx.C w (x.1.map (fun g => ⟨g, 0, none⟩)) x.2.2.length (x.2.2.map exT) := by
  have hx : AllOwn w (entX x.1 x.2.1 x.2.2) := ha.sub (fun E hE => List.mem_append_left _ hE)
  have ho := own_H hw hx
  obtain ⟨A, c, hv, hC⟩ := own_reads_row ho (reps_flat cellsT exT (kEx.K w) 10 x.2.2 (fun _ _ => rfl) (fun k hkm => read_K (hw.2 k hkm) (ha.sub (fun E hE => List.mem_append_right _ (List.mem_flatMap.2 ⟨k, hkm, hE⟩))))) (by rw [List.length_map])
  unfold svT at hv
  injection hv with h1 h2 h3
  have : A = x.1.map (fun g => ⟨g, 0, none⟩) := h1.symm
  rw [← this]
  exact hC
/-- Its elements, as they lie. -/
theorem atT {w : World} {g cap : Nat} {ts : List TX} (ho : Own w ⟨g, 31, 10, ts.length, cap, ts.flatMap cellsT⟩) (j : Nat) (hj : j < ts.length) : ∀ i, i < 10 → w.cell? ⟨g, j * 10 + i, none⟩ = (cellsT ts[j])[i]? := by
  intro i hi
  have hc : ∀ k u, (ts.flatMap cellsT)[k]? = some u → w.cell? ((⟨g, 0, none⟩ : Addr).add k) = some u := World.ownsRow.cells (g := g) ho rfl
  have hf := flat_at cellsT 10 ts (fun _ _ => rfl) j _ (List.getElem?_eq_getElem hj)
  have hi2 : i < (cellsT ts[j]).length := hi
  have hu : (ts.flatMap cellsT)[j * 10 + i]? = some ((cellsT ts[j])[i]'hi2) := by
    rw [← List.getElem?_drop]
    have := congrArg (fun l => l[i]?) hf
    simp only [List.getElem?_take, if_pos hi] at this
    rw [this, List.getElem?_eq_getElem hi2]
  have := hc _ _ hu
  rw [add_plain] at this
  rw [this, List.getElem?_eq_getElem hi2]
end Go.Proofs.Ytgnifglolbfamaa

/- The walks of tree.Equal and slices.EqualFunc (printed by mkequal.py). -/
set_option linter.unusedVariables false
set_option linter.unusedSimpArgs false
namespace Go.Proofs.Ytgnifglolbfamaa
open Go.RowKit Go.Proofs.YtgnifglolbfamaaW.PrintWords

mutual
def eqX : Ex → Ex → Bool
  | ⟨a0, a1, a2, a3, a4, a5, a6⟩, ⟨b0, b1, b2, b3, b4, b5, b6⟩ =>
    (a0 == b0) && (a1 == b1) && ((a2.f0 == b2.f0) && (a2.f1 == b2.f1) && (a2.f2.toList == b2.f2.toList) && (a2.f3 == b2.f3)) && (a3.toList == b3.toList) && (a4 == b4) && (a5.toList == b5.toList) && eqL a6 b6
def eqL : List Ex → List Ex → Bool
  | [], [] => true
  | x :: xs, y :: ys => eqX x y && eqL xs ys
  | [], _ :: _ => false
  | _ :: _, [] => false
end
theorem eqX_eq (a b : Ex) : eqX a b = ((a.f0 == b.f0) && (a.f1 == b.f1) && ((a.f2.f0 == b.f2.f0) && (a.f2.f1 == b.f2.f1) && (a.f2.f2.toList == b.f2.f2.toList) && (a.f2.f3 == b.f2.f3)) && (a.f3.toList == b.f3.toList) && (a.f4 == b.f4) && (a.f5.toList == b.f5.toList) && eqL a.f6 b.f6) := by cases a; cases b; rw [eqX]
theorem eqL_len : ∀ (a b : List Ex), a.length ≠ b.length → eqL a b = false
  | [], [], h => absurd rfl h
  | [], _ :: _, _ => by rw [eqL]
  | _ :: _, [], _ => by rw [eqL]
  | x :: a, y :: b, h => by
    rw [eqL, eqL_len a b (by intro e; exact h (by simp [e]))]
    simp
theorem eqL_append : ∀ (a a' b b' : List Ex), a.length = a'.length → eqL (a ++ b) (a' ++ b') = (eqL a a' && eqL b b')
  | [], [], b, b', _ => by rw [eqL]; simp
  | [], _ :: _, _, _, h => by simp at h
  | _ :: _, [], _, _, h => by simp at h
  | x :: a, y :: a', b, b', h => by
    simp only [List.cons_append]
    rw [eqL, eqL, eqL_append a a' b b' (by simpa using h), Bool.and_assoc]
mutual
theorem eqX_iff : ∀ a b : Ex, eqX a b = true ↔ a = b
  | ⟨a0, a1, ⟨v0, v1, v2, v3⟩, a3, a4, a5, a6⟩, ⟨b0, b1, ⟨u0, u1, u2, u3⟩, b3, b4, b5, b6⟩ => by
    have h := eqL_iff a6 b6
    have hb : ∀ s t : ByteArray, (s.toList == t.toList) = true ↔ s = t := by
      intro s t
      rw [Lib.toList_data, Lib.toList_data, beq_iff_eq]
      constructor
      · intro e
        cases s; cases t
        simp at e ⊢
        exact e
      · rintro rfl; rfl
    rw [eqX]
    simp only [Bool.and_eq_true, beq_iff_eq, hb, h, Ex.mk.injEq, Val.mk.injEq]
    constructor
    · rintro ⟨⟨⟨⟨⟨⟨rfl, rfl⟩, ⟨⟨rfl, rfl⟩, rfl⟩, rfl⟩, rfl⟩, rfl⟩, rfl⟩, rfl⟩
      simp
    · rintro ⟨rfl, rfl, ⟨rfl, rfl, rfl, rfl⟩, rfl, rfl, rfl, rfl⟩
      simp
theorem eqL_iff : ∀ a b : List Ex, eqL a b = true ↔ a = b
  | [], [] => by rw [eqL]; simp
  | [], _ :: _ => by rw [eqL]; simp
  | _ :: _, [] => by rw [eqL]; simp
  | x :: a, y :: b => by
    rw [eqL, Bool.and_eq_true, eqX_iff x y, eqL_iff a b]
    simp
end

def EqAt (m : Nat) : Prop := ∀ (x y : Ex) (A B : Option Addr) (c d : Nat) (w : World), exN x ≤ m → kEx.C w A x.f6.length x.f6 → kEx.C w B y.f6.length y.f6 →
    Calls Try.prog 50 #[exV x (.slice A x.f6.length c), exV y (.slice B y.f6.length d)] w fun e w' => e = .returned (.bool (eqX x y)) ∧ Below w.heap.size w w'

set_option maxHeartbeats 2000000 in
set_option maxRecDepth 100000 in
theorem eqf_any (m : Nat) (ih : EqAt m) (xs ys : List Ex) (A B : Option Addr) (c d : Nat) (w : World) (hm : ∀ x ∈ xs, exN x ≤ m) (hC : kEx.C w A xs.length xs) (hD : kEx.C w B ys.length ys) :
    Calls Try.prog 64 #[.slice A xs.length c, .slice B ys.length d, .func (.func 50) #[] #[]] w fun e w' => e = .returned (.bool (eqL xs ys)) ∧ Below w.heap.size w w' := by
  have HC := Lib.hid hC
  have HD := Lib.hid hD
  have hmx := hC.2.1
  have HL := Lib.hid (eqL_len xs ys)
  obtain ⟨res, hres⟩ : ∃ res, res = eqL xs ys := ⟨_, rfl⟩
  rw [← hres]
  have HR := Lib.hid hres
  clear hres hC hD
  by_cases hl : xs.length = ys.length
  · have d0 : ((xs.length : Int) != (ys.length : Int)) = false := by rw [hl]; simp
    have HLL := Lib.hid hl
    clear hl
    go_enter Try.func64, Try.ntmps64
    go_wp2_with fail
    go_loopw [17] (fun t17 wr => ∃ k : Nat, k ≤ xs.length ∧ t17 = .int .i64 k ∧ Below w.heap.size w wr ∧ Hid (eqL (xs.take k) (ys.take k) = true)) (fun t17 _ => xs.length - (intOf t17).toNat)
    case atStart => exact ⟨0, by omega, rfl, Below.refl _ _, Lib.hid (by simp [eqL])⟩
    case round =>
      obtain ⟨k, hk, rfl, hB, hO⟩ := hrel
      by_cases hlt : k < xs.length
      · have hlt2 : k < ys.length := by rw [← HLL.out]; exact hlt
        have i1 : (0 : Int) ≤ (k : Int) := by omega
        have i2 : (k : Int) < xs.length := by omega
        have i3 : (k : Int) < ys.length := by omega
        have hat := atEx (Kd.C_below HC.out hB) k i1 i2
        simp only [Int.toNat_natCast] at hat
        obtain ⟨ad, A9, c9, rfl, a0, a1, a2, a3, a4, a5, a6, a7, a8, a9, hl9, hi9⟩ := hat
        have hat := atEx (Kd.C_below HD.out hB) k i1 i3
        simp only [Int.toNat_natCast] at hat
        obtain ⟨bd, B9, d9, rfl, b0, b1, b2, b3, b4, b5, b6, b7, b8, b9, hm9, hj9⟩ := hat
        have HX := Lib.hid (rdEx_get xs k hlt)
        have HY := Lib.hid (rdEx_get ys k hlt2)
        generalize rdEx xs k = x at *
        generalize rdEx ys k = y at *
        have hmem : x ∈ xs := by rw [HX.out]; exact List.getElem_mem hlt
        have hbx := below_new wr (.cells #[.int .i64 x.f0, .int .i64 x.f1, .int .i64 x.f2.f0, .int .i64 x.f2.f1, .string x.f2.f2, .bool x.f2.f3, .string x.f3, .int .i64 x.f4, .string x.f5, .slice A9 x.f6.length c9] 31)
        have hb2 := below_step hbx (below_new _ (.cells #[.int .i64 y.f0, .int .i64 y.f1, .int .i64 y.f2.f0, .int .i64 y.f2.f1, .string y.f2.f2, .bool y.f2.f3, .string y.f3, .int .i64 y.f4, .string y.f5, .slice B9 y.f6.length d9] 31))
        have b0 := pw_cell_below hbx b0
        have b1 := pw_cell_below hbx b1
        have b2 := pw_cell_below hbx b2
        have b3 := pw_cell_below hbx b3
        have b4 := pw_cell_below hbx b4
        have b5 := pw_cell_below hbx b5
        have b6 := pw_cell_below hbx b6
        have b7 := pw_cell_below hbx b7
        have b8 := pw_cell_below hbx b8
        have b9 := pw_cell_below hbx b9
        have hX := blk_below (blk_new wr (.cells #[.int .i64 x.f0, .int .i64 x.f1, .int .i64 x.f2.f0, .int .i64 x.f2.f1, .string x.f2.f2, .bool x.f2.f3, .string x.f3, .int .i64 x.f4, .string x.f5, .slice A9 x.f6.length c9] 31)) (below_new _ (.cells #[.int .i64 y.f0, .int .i64 y.f1, .int .i64 y.f2.f0, .int .i64 y.f2.f1, .string y.f2.f2, .bool y.f2.f3, .string y.f3, .int .i64 y.f4, .string y.f5, .slice B9 y.f6.length d9] 31))
        have x0 := (blk_cell hX 0).trans rfl
        have x1 := (blk_cell hX 1).trans rfl
        have x2 := (blk_cell hX 2).trans rfl
        have x3 := (blk_cell hX 3).trans rfl
        have x4 := (blk_cell hX 4).trans rfl
        have x5 := (blk_cell hX 5).trans rfl
        have x6 := (blk_cell hX 6).trans rfl
        have x7 := (blk_cell hX 7).trans rfl
        have x8 := (blk_cell hX 8).trans rfl
        have x9 := (blk_cell hX 9).trans rfl
        have hcall := ih x y A9 B9 c9 d9 _ (hm x hmem) (Kd.C_below hi9 hb2) (Kd.C_below hj9 hb2)
        have HS := Lib.hid (show eqL (xs.take (k + 1)) (ys.take (k + 1)) = eqX x y by
          rw [List.take_succ_eq_append_getElem hlt, List.take_succ_eq_append_getElem hlt2, eqL_append _ _ _ _ (by rw [List.length_take, List.length_take, HLL.out]), hO.out, ← HX.out, ← HY.out]
          simp [eqL])
        have HS2 := Lib.hid (show eqL xs ys = (eqL (xs.take (k + 1)) (ys.take (k + 1)) && eqL (xs.drop (k + 1)) (ys.drop (k + 1))) by
          rw [← eqL_append _ _ _ _ (by rw [List.length_take, List.length_take, HLL.out]), List.take_append_drop, List.take_append_drop])
        generalize hb : eqX x y = b at *
        have HCALL := Lib.hid hcall
        unfold exV at HCALL
        clear hcall hb hX hi9 hj9
        go_wp2_with fail
        refine HCALL.out.mono ?_
        rintro e w3 ⟨rfl, hb3⟩
        have hB3 := below_step (below_step hB hb2) hb3
        cases b with
        | true =>
          go_wp2_with fail
          go_roundw
          case rel => exact ⟨k + 1, by omega, by go_num, hB3, Lib.hid HS.out⟩
          case measure => simp [intOf]; omega
        | false =>
          have HE := Lib.hid (show res = false by rw [HR.out, HS2.out, HS.out]; rfl)
          go_wp2_with fail
          go_ret
          exact ⟨by rw [HE.out]; rfl, hB3⟩
      · obtain rfl : k = xs.length := by omega
        have hO2 := hO.out
        rw [List.take_length, HLL.out, List.take_length] at hO2
        have HE := Lib.hid (show res = true by rw [HR.out]; exact hO2)
        go_wp2_with fail
        go_ret
        exact ⟨by rw [HE.out]; rfl, hB⟩
  · have d0 : ((xs.length : Int) != (ys.length : Int)) = true := by rw [bne_iff_ne]; omega
    have HE := Lib.hid (show res = false by rw [HR.out]; exact HL.out hl)
    go_enter Try.func64, Try.ntmps64
    go_wp2_with fail
    go_ret
    exact ⟨by rw [HE.out]; rfl, Below.refl _ _⟩

set_option maxHeartbeats 4000000 in
set_option maxRecDepth 100000 in
theorem equal_any : ∀ m, EqAt m := by
  intro m
  induction m with
  | zero => intro x y A B c d w h; rw [exN_eq] at h; omega
  | succ m ih =>
    intro x y A B c d w hm hC hD
    rw [exN_eq] at hm
    have hb2 := below_step (below_new w (.cells #[.int .i64 x.f0, .int .i64 x.f1, .int .i64 x.f2.f0, .int .i64 x.f2.f1, .string x.f2.f2, .bool x.f2.f3, .string x.f3, .int .i64 x.f4, .string x.f5, .slice A x.f6.length c] 31)) (below_new _ (.cells #[.int .i64 y.f0, .int .i64 y.f1, .int .i64 y.f2.f0, .int .i64 y.f2.f1, .string y.f2.f2, .bool y.f2.f3, .string y.f3, .int .i64 y.f4, .string y.f5, .slice B y.f6.length d] 31))
    have hcall := fun (W : World) (hb : Below w.heap.size w W) => eqf_any m ih x.f6 y.f6 A B c d W (fun z hz => by
      obtain ⟨i, hi, rfl⟩ := List.getElem_of_mem hz
      have := exN_get x.f6 i hi
      omega) (Kd.C_below hC hb) (Kd.C_below hD hb)
    have hX := blk_below (blk_new w (.cells #[.int .i64 x.f0, .int .i64 x.f1, .int .i64 x.f2.f0, .int .i64 x.f2.f1, .string x.f2.f2, .bool x.f2.f3, .string x.f3, .int .i64 x.f4, .string x.f5, .slice A x.f6.length c] 31)) (below_new _ (.cells #[.int .i64 y.f0, .int .i64 y.f1, .int .i64 y.f2.f0, .int .i64 y.f2.f1, .string y.f2.f2, .bool y.f2.f3, .string y.f3, .int .i64 y.f4, .string y.f5, .slice B y.f6.length d] 31))
    have hY := blk_new (w.alloc (.cells #[.int .i64 x.f0, .int .i64 x.f1, .int .i64 x.f2.f0, .int .i64 x.f2.f1, .string x.f2.f2, .bool x.f2.f3, .string x.f3, .int .i64 x.f4, .string x.f5, .slice A x.f6.length c] 31)) (.cells #[.int .i64 y.f0, .int .i64 y.f1, .int .i64 y.f2.f0, .int .i64 y.f2.f1, .string y.f2.f2, .bool y.f2.f3, .string y.f3, .int .i64 y.f4, .string y.f5, .slice B y.f6.length d] 31)
    rw [alloc_size'] at hY
    have p0 := (blk_cell hX 0).trans rfl
    have p1 := (blk_cell hX 1).trans rfl
    have p2 := (blk_cell hX 2).trans rfl
    have p3 := (blk_cell hX 3).trans rfl
    have p4 := (blk_cell hX 4).trans rfl
    have p5 := (blk_cell hX 5).trans rfl
    have p6 := (blk_cell hX 6).trans rfl
    have p7 := (blk_cell hX 7).trans rfl
    have p8 := (blk_cell hX 8).trans rfl
    have p9 := (blk_cell hX 9).trans rfl
    have q0 := (blk_cell hY 0).trans rfl
    have q1 := (blk_cell hY 1).trans rfl
    have q2 := (blk_cell hY 2).trans rfl
    have q3 := (blk_cell hY 3).trans rfl
    have q4 := (blk_cell hY 4).trans rfl
    have q5 := (blk_cell hY 5).trans rfl
    have q6 := (blk_cell hY 6).trans rfl
    have q7 := (blk_cell hY 7).trans rfl
    have q8 := (blk_cell hY 8).trans rfl
    have q9 := (blk_cell hY 9).trans rfl
    have H1 := eqX_eq x y
    obtain ⟨res, hres⟩ : ∃ res, res = eqX x y := ⟨_, rfl⟩
    rw [← hres] at H1 ⊢
    have HCALL := Lib.hid hcall
    have H1 := Lib.hid H1
    clear hcall hres hC hD ih hX hY
    unfold exV
    rcases Bool.eq_false_or_eq_true (x.f0 == y.f0) with d0 | d0
    rotate_left
    · have HE := Lib.hid (show res = false by rw [H1.out, d0]; simp)
      go_enter Try.func50, Try.ntmps50
      go_wp2_with fail
      go_ret
      exact ⟨by rw [HE.out]; rfl, hb2⟩
    rcases Bool.eq_false_or_eq_true (x.f1 == y.f1) with d1 | d1
    rotate_left
    · have HE := Lib.hid (show res = false by rw [H1.out, d0, d1]; simp)
      go_enter Try.func50, Try.ntmps50
      go_wp2_with fail
      go_ret
      exact ⟨by rw [HE.out]; rfl, hb2⟩
    rcases Bool.eq_false_or_eq_true (x.f2.f0 == y.f2.f0) with d2 | d2
    rotate_left
    · have HE := Lib.hid (show res = false by rw [H1.out, d0, d1, d2]; simp)
      go_enter Try.func50, Try.ntmps50
      go_wp2_with fail
      go_ret
      exact ⟨by rw [HE.out]; rfl, hb2⟩
    rcases Bool.eq_false_or_eq_true (x.f2.f1 == y.f2.f1) with d3 | d3
    rotate_left
    · have HE := Lib.hid (show res = false by rw [H1.out, d0, d1, d2, d3]; simp)
      go_enter Try.func50, Try.ntmps50
      go_wp2_with fail
      go_ret
      exact ⟨by rw [HE.out]; rfl, hb2⟩
    rcases Bool.eq_false_or_eq_true (x.f2.f2.toList == y.f2.f2.toList) with d4 | d4
    rotate_left
    · have HE := Lib.hid (show res = false by rw [H1.out, d0, d1, d2, d3, d4]; simp)
      go_enter Try.func50, Try.ntmps50
      go_wp2_with fail
      go_ret
      exact ⟨by rw [HE.out]; rfl, hb2⟩
    rcases Bool.eq_false_or_eq_true (x.f2.f3 == y.f2.f3) with d5 | d5
    rotate_left
    · have HE := Lib.hid (show res = false by rw [H1.out, d0, d1, d2, d3, d4, d5]; simp)
      go_enter Try.func50, Try.ntmps50
      go_wp2_with fail
      go_ret
      exact ⟨by rw [HE.out]; rfl, hb2⟩
    rcases Bool.eq_false_or_eq_true (x.f3.toList == y.f3.toList) with d6 | d6
    rotate_left
    · have HE := Lib.hid (show res = false by rw [H1.out, d0, d1, d2, d3, d4, d5, d6]; simp)
      go_enter Try.func50, Try.ntmps50
      go_wp2_with fail
      go_ret
      exact ⟨by rw [HE.out]; rfl, hb2⟩
    rcases Bool.eq_false_or_eq_true (x.f4 == y.f4) with d7 | d7
    rotate_left
    · have HE := Lib.hid (show res = false by rw [H1.out, d0, d1, d2, d3, d4, d5, d6, d7]; simp)
      go_enter Try.func50, Try.ntmps50
      go_wp2_with fail
      go_ret
      exact ⟨by rw [HE.out]; rfl, hb2⟩
    rcases Bool.eq_false_or_eq_true (x.f5.toList == y.f5.toList) with d8 | d8
    rotate_left
    · have HE := Lib.hid (show res = false by rw [H1.out, d0, d1, d2, d3, d4, d5, d6, d7, d8]; simp)
      go_enter Try.func50, Try.ntmps50
      go_wp2_with fail
      go_ret
      exact ⟨by rw [HE.out]; rfl, hb2⟩
    have HE := Lib.hid (show res = eqL x.f6 y.f6 by rw [H1.out, d0, d1, d2, d3, d4, d5, d6, d7, d8]; simp)
    go_enter Try.func50, Try.ntmps50
    go_wp2_with fail
    refine (HCALL.out _ hb2).mono ?_
    rintro e w3 ⟨rfl, hb3⟩
    go_wp2_with fail
    go_ret
    exact ⟨by rw [HE.out]; rfl, below_step hb2 hb3⟩
end Go.Proofs.Ytgnifglolbfamaa

/- The law's own word: count. -/
set_option linter.unusedVariables false
set_option linter.unusedSimpArgs false
namespace Go.Proofs.Ytgnifglolbfamaa
open Go.RowKit Go.Proofs.YtgnifglolbfamaaW.PrintWords

def cntX (l : List Ex) (e : Ex) : Nat := (l.filter (fun x => eqX x e)).length
theorem cntX_le (l : List Ex) (e : Ex) : cntX l e ≤ l.length := List.length_filter_le _ _
theorem cntX_snoc (l : List Ex) (x e : Ex) : cntX (l ++ [x]) e = cntX l e + if eqX x e then 1 else 0 := by
  unfold cntX
  rw [List.filter_append, List.length_append]
  cases h : eqX x e <;> simp [h]

set_option maxHeartbeats 4000000 in
set_option maxRecDepth 100000 in
theorem count_any (l : List Ex) (A : Option Addr) (c : Nat) (e : Ex) (B : Option Addr) (cb : Nat) (w : World) (hC : kEx.C w A l.length l) (hE : kEx.C w B e.f6.length e.f6) :
    Calls Try.prog 26 #[.slice A l.length c, exV e (.slice B e.f6.length cb)] w fun r w' => r = .returned (.int .i64 (cntX l e : Nat)) ∧ Below w.heap.size w w' := by
  have hmx := hC.2.1
  have hb1 := below_new w (.cells #[.int .i64 e.f0, .int .i64 e.f1, .int .i64 e.f2.f0, .int .i64 e.f2.f1, .string e.f2.f2, .bool e.f2.f3, .string e.f3, .int .i64 e.f4, .string e.f5, .slice B e.f6.length cb] 31)
  have hX := Lib.hid (blk_new w (.cells #[.int .i64 e.f0, .int .i64 e.f1, .int .i64 e.f2.f0, .int .i64 e.f2.f1, .string e.f2.f2, .bool e.f2.f3, .string e.f3, .int .i64 e.f4, .string e.f5, .slice B e.f6.length cb] 31))
  have HC := Lib.hid (Kd.C_below hC hb1)
  have HE := Lib.hid (Kd.C_below hE hb1)
  obtain ⟨res, hres⟩ : ∃ res, res = cntX l e := ⟨_, rfl⟩
  rw [← hres]
  have HR := Lib.hid hres
  clear hC hE hres
  unfold exV
  go_enter Try.func26, Try.ntmps26
  go_wp2_with fail
  generalize w.alloc (.cells #[.int .i64 e.f0, .int .i64 e.f1, .int .i64 e.f2.f0, .int .i64 e.f2.f1, .string e.f2.f2, .bool e.f2.f3, .string e.f3, .int .i64 e.f4, .string e.f5, .slice B e.f6.length cb] 31) = W1 at *
  go_loopw [5, 6] (fun t5 t6 wr => ∃ k n : Nat, k ≤ l.length ∧ n ≤ k ∧ t6 = .int .i64 k ∧ t5 = .int .i64 n ∧ Below W1.heap.size W1 wr ∧ Hid (n = cntX (l.take k) e)) (fun _ t6 _ => l.length - (intOf t6).toNat)
  case atStart => exact ⟨0, 0, by omega, by omega, rfl, rfl, Below.refl _ _, Lib.hid rfl⟩
  case round =>
    obtain ⟨k, n, hk, hn, rfl, rfl, hB, hO⟩ := hrel
    by_cases hlt : k < l.length
    · have i1 : (0 : Int) ≤ (k : Int) := by omega
      have i2 : (k : Int) < l.length := by omega
      have hat := atEx (Kd.C_below HC.out hB) k i1 i2
      simp only [Int.toNat_natCast] at hat
      obtain ⟨ad, A9, c9, rfl, a0, a1, a2, a3, a4, a5, a6, a7, a8, a9, hl9, hi9⟩ := hat
      have HY := Lib.hid (rdEx_get l k hlt)
      generalize rdEx l k = y at *
      have hXr := blk_below hX.out hB
      have x0 := (blk_cell hXr 0).trans rfl
      have x1 := (blk_cell hXr 1).trans rfl
      have x2 := (blk_cell hXr 2).trans rfl
      have x3 := (blk_cell hXr 3).trans rfl
      have x4 := (blk_cell hXr 4).trans rfl
      have x5 := (blk_cell hXr 5).trans rfl
      have x6 := (blk_cell hXr 6).trans rfl
      have x7 := (blk_cell hXr 7).trans rfl
      have x8 := (blk_cell hXr 8).trans rfl
      have x9 := (blk_cell hXr 9).trans rfl
      have HCALL := Lib.hid (equal_any (exN y) y e A9 B c9 cb wr.drew (Nat.le_refl _) (Kd.C_below hi9 (below_drew (Below.refl _ _))) (Kd.C_below (Kd.C_below HE.out hB) (below_drew (Below.refl _ _))))
      have HT := Lib.hid (show cntX (l.take (k + 1)) e = n + if eqX y e then 1 else 0 by rw [List.take_succ_eq_append_getElem hlt, cntX_snoc, ← HY.out, ← hO.out])
      generalize eqX y e = b at *
      unfold exV at HCALL
      clear hi9 hXr
      go_wp2_with fail
      go_still_tail 5, (by kernel_rfl)
      change wpList _ _ _ _ _ wr.drew
      have hBd := below_drew hB
      generalize wr.drew = wd at *
      go_wp2_with fail
      refine HCALL.out.mono ?_
      rintro r w3 ⟨rfl, hb3⟩
      have hB3 := below_step hBd hb3
      cases b with
      | true =>
        go_wp2_with fail
        go_roundw
        case rel => exact ⟨k + 1, n + 1, by omega, by omega, by go_num, by go_num, hB3, Lib.hid (by rw [HT.out]; rfl)⟩
        case measure => simp [intOf]; omega
      | false =>
        go_wp2_with fail
        go_roundw
        case rel => exact ⟨k + 1, n, by omega, by omega, by go_num, rfl, hB3, Lib.hid (by rw [HT.out]; rfl)⟩
        case measure => simp [intOf]; omega
    · obtain rfl : k = l.length := by omega
      have hO2 := hO.out
      rw [List.take_length] at hO2
      have HF := Lib.hid (show res = n by rw [HR.out, hO2])
      clear hO2
      go_wp2_with fail
      go_ret
      exact ⟨by rw [HF.out]; rfl, below_step hb1 hB⟩
end Go.Proofs.Ytgnifglolbfamaa
