import Derived.Test.YtcfgmkmllcfjjaaGreatDoorZAD
import Derived.Lib.Zigzag
import Derived.Lib.VarintBits
import Derived.Deep.AppendLies
import Derived.Lib.AppendStr
import Derived.Lib.Hide
import Derived.LoopIn
import Derived.Deep.RegionLaw
import Derived.Deep.RegionHeld3
set_option linter.unusedVariables false
set_option linter.unusedSimpArgs false
namespace Go.Proofs.YtcfgmkmllcfjjaaGreatDoor
open Go.RowKit Go.Proofs.YtcfgmkmllcfjjaaGreatDoorW.PrintWords Go.Proofs.YtcfgmkmllcfjjaaGreatDoorW.PrintMore PImageAll
def uvL (z : Nat) : List Int := if h : z < 128 then [(z : Int)] else ((z % 128 + 128 : Nat) : Int) :: uvL (z / 128)
termination_by z
decreasing_by omega
theorem uvL_small {z : Nat} (h : z < 128) : uvL z = [(z : Int)] := by rw [uvL, dif_pos h]
theorem uvL_big {z : Nat} (h : ¬ z < 128) : uvL z = ((z % 128 + 128 : Nat) : Int) :: uvL (z / 128) := by rw [uvL, dif_neg h]
theorem uvL_len : ∀ (j z : Nat), z < 128 ^ (j + 1) → (uvL z).length ≤ j + 1
  | 0, z, h => by rw [uvL_small (by simpa using h)]; simp
  | j + 1, z, h => by
    by_cases hz : z < 128
    · rw [uvL_small hz]; simp
    · rw [uvL_big hz, List.length_cons]
      have := uvL_len j (z / 128) (by rw [Nat.pow_succ] at h; exact Nat.div_lt_of_lt_mul (by rw [Nat.mul_comm]; exact h))
      omega
theorem uvL_pos (z : Nat) : 1 ≤ (uvL z).length := by
  by_cases hz : z < 128
  · rw [uvL_small hz]; simp
  · rw [uvL_big hz]; simp
theorem uvL_bytes (z : Nat) : ∀ b ∈ uvL z, 0 ≤ b ∧ b < 256 := by
  induction z using Nat.strongRecOn with
  | _ z ih =>
    intro b hb
    by_cases hz : z < 128
    · rw [uvL_small hz, List.mem_singleton] at hb
      subst hb
      omega
    · rw [uvL_big hz] at hb
      rcases List.mem_cons.1 hb with rfl | hb
      · omega
      · exact ih (z / 128) (by omega) b hb
def I64 (n : Int) : Prop := -9223372036854775808 ≤ n ∧ n ≤ 9223372036854775807
def puti (n : Int) : List Int := uvL (Lib.zigzag n)
theorem puti_len {n : Int} (h : I64 n) : (puti n).length ≤ 10 := uvL_len 9 _ (Nat.lt_of_lt_of_le (Lib.zigzag_lt h.1 h.2) (by decide))
theorem puti_pos (n : Int) : 1 ≤ (puti n).length := uvL_pos _
theorem puti_bytes (n : Int) : ∀ b ∈ puti n, 0 ≤ b ∧ b < 256 := uvL_bytes _
theorem put_l0 : ∀ (j z k : Nat) (x0 : List Int), z < 128 ^ (j + 1) → j < k → x0.length + j < 140737488355328 → wire_putInt.l0 k x0 (z : Int) = some (x0 ++ uvL z) := by
  intro j
  induction j with
  | zero =>
    intro z k x0 hz hk hl
    obtain ⟨k', rfl⟩ : ∃ k', k = k' + 1 := ⟨k - 1, by omega⟩
    have hz' : z < 128 := by simpa using hz
    rw [wire_putInt.l0, if_neg (by omega), if_pos (by omega), uvL_small hz', show (z : Int) % 256 = z by omega]
  | succ j ih =>
    intro z k x0 hz hk hl
    obtain ⟨k', rfl⟩ : ∃ k', k = k' + 1 := ⟨k - 1, by omega⟩
    by_cases hz' : z < 128
    · rw [wire_putInt.l0, if_neg (by omega), if_pos (by omega), uvL_small hz', show (z : Int) % 256 = z by omega]
    · rw [wire_putInt.l0, if_pos (by omega), if_pos (by omega), uvL_big hz', Lib.u8_or128_any _ (by omega) (by omega), show (z : Int) / 128 = ((z / 128 : Nat) : Int) by omega,
        show (z : Int) % 256 % 128 + 128 = ((z % 128 + 128 : Nat) : Int) by omega,
        ih (z / 128) k' _ (by rw [Nat.pow_succ] at hz; exact Nat.div_lt_of_lt_mul (by rw [Nat.mul_comm]; exact hz)) (by omega) (by rw [List.length_append, List.length_singleton]; omega), List.append_assoc]
      rfl
theorem zig_bits {n : Int} (h : I64 n) : Go.bits .xor .u64 ((IntKind.u64.wrap ((IntKind.u64.wrap (n)) * 2))) (IntKind.u64.wrap (n / 9223372036854775808)) = ((Lib.zigzag n : Nat) : Int) := by
  have hc : ∀ a b : Int, Go.bits .xor .u64 a b = Go.bits .xor .u64 b a := fun a b => by unfold Go.bits; simp only [BitVec.xor_comm]
  obtain ⟨h1, h2⟩ := h
  by_cases hn : 0 ≤ n
  · have e1 : n / 9223372036854775808 = 0 := by omega
    have e2 : IntKind.u64.wrap ((IntKind.u64.wrap n) * 2) = ((2 * n).toNat : Nat) := by rw [IntKind.wrap_u64, IntKind.wrap_u64]; omega
    rw [e1, e2, show IntKind.u64.wrap 0 = ((0 : Nat) : Int) from rfl, bits_xor_u64_nat _ _ (by omega) (by decide), Nat.xor_zero]
    unfold Lib.zigzag
    rw [if_pos hn]
  · have e1 : n / 9223372036854775808 = -1 := by omega
    rw [e1, hc, show IntKind.u64.wrap (-1) = IntKind.u64.max from by decide]
    exact Lib.zigzag_neg h1 (by omega)
theorem putInt_f {k : Nat} {l0 : List Int} {n : Int} (h : I64 n) (hk : 10 ≤ k) (hl : l0.length ≤ 140737488355000) : wire_putInt.f k l0 n = some (l0 ++ puti n) := by
  unfold wire_putInt.f
  rw [zig_bits h]
  exact put_l0 9 _ k l0 (Nat.lt_of_lt_of_le (Lib.zigzag_lt h.1 h.2) (by decide)) (by omega) (by omega)
theorem PutInt_f {n : Int} (h : I64 n) : wire_PutInt.f 20 n = some (puti n) := by
  unfold wire_PutInt.f
  rw [putInt_f h (by decide) (by simp)]
  rfl
def unzig (z : Nat) : Int := if z % 2 = 0 then ((z / 2 : Nat) : Int) else -((z / 2 : Nat) : Int) - 1
theorem unzig_zigzag {n : Int} (h : I64 n) : unzig (Lib.zigzag n) = n := by
  unfold unzig Lib.zigzag
  obtain ⟨h1, h2⟩ := h
  by_cases hn : 0 ≤ n
  · rw [if_pos hn, if_pos (by omega)]; omega
  · rw [if_neg hn, if_neg (by omega)]; omega
theorem unz {z : Nat} (h : z < 18446744073709551616) : Go.bits .xor .i64 (wrap64 ((z : Int) / 2)) (wrap64 (-(wrap64 (Go.bits .and .u64 (z : Int) 1)))) = unzig z := by
  have hc : ∀ a b : Int, Go.bits .xor .i64 a b = Go.bits .xor .i64 b a := fun a b => by unfold Go.bits; simp only [BitVec.xor_comm]
  rw [Lib.u64_and1 _ (by omega) (by omega)]
  have e1 : wrap64 ((z : Int) / 2) = ((z / 2 : Nat) : Int) := by unfold wrap64; omega
  rw [e1]
  unfold unzig
  by_cases hz : z % 2 = 0
  · rw [if_pos hz]
    have e2 : wrap64 (-(wrap64 ((z : Int) % 2))) = 0 := by unfold wrap64; omega
    rw [e2]
    show IntKind.i64.wrap ((BitVec.ofInt 64 ((z / 2 : Nat) : Int) ^^^ BitVec.ofInt 64 0).toNat : Int) = _
    have h1 : (BitVec.ofInt 64 (0 : Int)) = 0#64 := by decide
    have h2 : (BitVec.ofInt 64 ((z / 2 : Nat) : Int)).toNat = z / 2 := by rw [BitVec.ofInt_natCast, BitVec.toNat_ofNat]; exact Nat.mod_eq_of_lt (by omega)
    rw [h1, BitVec.xor_zero, h2, IntKind.wrap_i64]
    omega
  · rw [if_neg hz]
    have e2 : wrap64 (-(wrap64 ((z : Int) % 2))) = -1 := by unfold wrap64; omega
    rw [e2, hc, Lib.i64_not _ (by omega)]
structure Only (S : Nat → Prop) (w w' : World) : Prop where
  os : w'.os = w.os
  tape : w'.tape = w.tape
  output : w'.output = w.output
  size : w.heap.size ≤ w'.heap.size
  block : ∀ k, k < w.heap.size → ¬ S k → w'.heap[k]? = w.heap[k]?
namespace Only
variable {S T : Nat → Prop} {w w1 w2 : World}
theorem refl (S : Nat → Prop) (w : World) : Only S w w := ⟨rfl, rfl, rfl, Nat.le_refl _, fun _ _ _ => rfl⟩
theorem trans (h : Only S w w1) (k : Only T w1 w2) (hs : ∀ b, b < w.heap.size → ¬ S b → T b → False) : Only S w w2 :=
  ⟨k.os.trans h.os, k.tape.trans h.tape, k.output.trans h.output, Nat.le_trans h.size k.size, fun i hi hn => (k.block i (Nat.lt_of_lt_of_le hi h.size) (fun ht => hs i hi hn ht)).trans (h.block i hi hn)⟩
theorem of_below (h : Below w.heap.size w w1) : Only S w w1 := ⟨h.os, h.tape, h.output, h.size, fun i hi _ => h.block i hi⟩
theorem below {B : Nat} (h : Only S w w1) (hB : B ≤ w.heap.size) (hs : ∀ b, b < B → ¬ S b) : Below B w w1 := ⟨h.os, h.tape, h.output, h.size, fun i hi => h.block i (Nat.lt_of_lt_of_le hi hB) (hs i hi)⟩
theorem setCell (a : Addr) (v : Value) (ha : S a.block) : Only S w (w.setCell a v) := ⟨rfl, rfl, rfl, by simp [World.setCell], fun k _ hn => Below.heap_setCell _ _ _ _ (fun e => hn (e ▸ ha))⟩
theorem grown {row : Option Nat} (hg : w.grownBy w1 row) (hr : ∀ k, row = some k → S k) : Only S w w1 :=
  ⟨hg.os, hg.tape, hg.output, hg.size, fun k hk hn => hg.block k hk (fun e => hn (hr k e.symm))⟩
theorem blk {g : Nat} {o : Obj} (h : Only S w w1) (hb : w.heap[g]? = some o) (hn : ¬ S g) : w1.heap[g]? = some o :=
  (h.block g (Array.getElem?_eq_some_iff.1 hb).1 hn).trans hb
end Only
theorem blk_lt' {w : World} {g : Nat} {o : Obj} (h : w.heap[g]? = some o) : g < w.heap.size := (Array.getElem?_eq_some_iff.1 h).1
theorem below_new (w : World) (o : Obj) : Below w.heap.size w (w.alloc o) := (Below.refl _ _).alloc (Nat.le_refl _) o
def Ty5 (w : World) (k : Nat) : Prop := ∃ cur fr, w.heap[k]? = some (.cells cur 5 fr)
def Wr (base gw : Nat) (w w' : World) : Prop := Only (fun k => base ≤ k ∧ (k = gw ∨ Ty5 w k)) w w'
namespace Wr
variable {base gw : Nat} {w w1 w2 : World}
theorem refl : Wr base gw w w := Only.refl _ _
theorem trans (h : Wr base gw w w1) (k : Wr base gw w1 w2) : Wr base gw w w2 := Only.trans h k (by
  rintro b hb hn ⟨h1, h2⟩
  apply hn
  refine ⟨h1, ?_⟩
  rcases h2 with h2 | ⟨cur, fr, h2⟩
  · exact .inl h2
  · have := h.block b hb hn
    exact .inr ⟨cur, fr, by rw [← this]; exact h2⟩)
theorem of_below (h : Below w.heap.size w w1) : Wr base gw w w1 := Only.of_below h
theorem below (h : Wr base gw w w1) (hB : base ≤ w.heap.size) : Below base w w1 := Only.below h hB (fun b hb hs => by have := hs.1; omega)
theorem blk {g : Nat} {cells : Array Value} {t : TypeId} {fr : Nat × Nat} (h : Wr base gw w w1) (hb : w.heap[g]? = some (.cells cells t fr)) (hg : g ≠ gw) (ht : t ≠ 5) : w1.heap[g]? = some (.cells cells t fr) :=
  Only.blk h hb (by
    rintro ⟨_, h2 | ⟨cur, fr', h2⟩⟩
    · exact hg h2
    · rw [hb] at h2
      injection h2 with h2
      injection h2 with _ h3
      exact ht h3)
theorem setCell (a : Addr) (v : Value) (h : Wr base gw w w1) (hb : base ≤ gw) (ha : a.block = gw) : Wr base gw w (w1.setCell a v) := h.trans (Only.setCell a v ⟨by rw [ha]; exact hb, .inl ha⟩)
theorem grown {row : Option Nat} (hg : w.grownBy w1 row) (hr : ∀ k, row = some k → base ≤ k ∧ Ty5 w k) : Wr base gw w w1 := Only.grown hg (fun k hk => ⟨(hr k hk).1, .inr (hr k hk).2⟩)
end Wr
theorem own_slice {w : World} {base : Nat} {e : TypeId} {size n : Nat} {v : Value} {xs : List Value} (h : w.ownsRow base e size v n xs) : ∃ A c, v = .slice A n c := by
  rcases h.2 with ⟨rfl, rfl⟩ | ⟨g, cap, cur, rfl, _⟩
  · exact ⟨none, 0, rfl⟩
  · exact ⟨_, _, rfl⟩
def WAt (w : World) (gw base : Nat) (l : List Int) (bad : Bool) : Prop :=
  base ≤ gw ∧ ∃ A c, w.heap[gw]? = some (.cells #[.slice A l.length c, .bool bad] 73 (0, 0)) ∧ w.ownsRow base 5 1 (.slice A l.length c) l.length (nums .u8 l)
theorem WAt.lt {w : World} {gw base : Nat} {l : List Int} {bad : Bool} (h : WAt w gw base l bad) : gw < w.heap.size := by
  obtain ⟨_, A, c, hb, _⟩ := h
  exact blk_lt' hb
theorem WAt.below {w w' : World} {gw base : Nat} {l : List Int} {bad : Bool} (h : WAt w gw base l bad) (hB : Below w.heap.size w w') : WAt w' gw base l bad := by
  have hl := h.lt
  obtain ⟨h1, A, c, hb, ho⟩ := h
  refine ⟨h1, A, c, (hB.block gw hl).trans hb, own_move ho (fun k hk => hB.block k (own_lt ho k hk))⟩
theorem wapp_mem {w0 W w1 : World} {gw base c : Nat} {A : Option Addr} {l l' : List Int} {bad : Bool} {v1 : Value}
    (hgw : base ≤ gw) (hb : w0.heap[gw]? = some (.cells #[.slice A l.length c, .bool bad] 73 (0, 0))) (hO : w0.ownsRow base 5 1 (.slice A l.length c) l.length (nums .u8 l))
    (hB : Below w0.heap.size w0 W) (hg : W.grownBy w1 (Value.slice A l.length c).ownBlock) (hO1 : w1.ownsRow base 5 1 v1 l'.length (nums .u8 l')) :
    (∃ A1 c1, v1 = .slice A1 l'.length c1) ∧ w1.cell? ⟨gw, 0, none⟩ = some (.slice A l.length c) ∧ w1.frozen? ⟨gw, 0, none⟩ = false ∧ Wr base gw w0 w1 ∧
      WAt (w1.setCell ⟨gw, 0, none⟩ v1) gw base l' bad ∧ Wr base gw w0 (w1.setCell ⟨gw, 0, none⟩ v1) := by
  have hne : ∀ {w : World} {v : Value} {n : Nat} {xs : List Value} {cells : Array Value}, w.ownsRow base 5 1 v n xs → w.heap[gw]? = some (.cells cells 73 (0, 0)) → some gw ≠ v.ownBlock := by
    intro w v n xs cells ho hw he
    obtain ⟨cur, hc⟩ := own_typed ho gw he.symm
    rw [hw] at hc
    injection hc with hc
    injection hc with _ h3
    exact absurd h3 (by decide)
  have hW : W.heap[gw]? = some (.cells #[.slice A l.length c, .bool bad] 73 (0, 0)) := (hB.block gw (blk_lt' hb)).trans hb
  have h1 : w1.heap[gw]? = some (.cells #[.slice A l.length c, .bool bad] 73 (0, 0)) := (hg.block gw (blk_lt' hW) (hne hO hb)).trans hW
  obtain ⟨A1, c1, rfl⟩ := own_slice hO1
  have hR1 : Wr base gw w0 w1 := Wr.trans (Wr.of_below hB) (Wr.grown hg (fun k hk => ⟨own_base hO k hk, by
    obtain ⟨cur, hc⟩ := own_typed hO k hk
    exact ⟨cur, _, (hB.block k (blk_lt' hc)).trans hc⟩⟩))
  refine ⟨⟨A1, c1, rfl⟩, by rw [cell_of_row _ _ _ _ _ _ h1]; rfl, by simp [World.frozen?, h1], hR1, ⟨hgw, A1, c1, ?_, ?_⟩, ?_⟩
  · simp [World.setCell, Array.getElem?_modify, h1]
  · refine own_move hO1 (fun k hk => Below.heap_setCell _ _ _ _ (fun e => ?_))
    exact hne hO1 h1 (by rw [hk, e])
  · exact Wr.setCell _ _ hR1 hgw rfl
section
variable {ops : Array Oper} {rest : List Oper} {o : Oper} {a : Act} {Q : Exit → Act → World → Prop}
theorem wapp_str {w0 W : World} {gw base c : Nat} {A : Option Addr} {l : List Int} {bad : Bool} (hgd : o.guard = none) (s x : Operand)
    (ho : o.op = .call { callee := .builtin .append, args := #[s, x], argTypes := #[33, 9] })
    (hgw : base ≤ gw) (hb : w0.heap[gw]? = some (.cells #[.slice A l.length c, .bool bad] 73 (0, 0))) (hO : w0.ownsRow base 5 1 (.slice A l.length c) l.length (nums .u8 l))
    (hB : Below w0.heap.size w0 W) (y : ByteArray) (hs : a.eval s = .slice A l.length c) (hx : a.eval x = .string y) (hl : l.length + y.size ≤ 140737488355328)
    (h : ∀ A1 n1 c1 w1, w1.cell? ⟨gw, 0, none⟩ = some (.slice A l.length c) → w1.frozen? ⟨gw, 0, none⟩ = false → Wr base gw w0 w1 →
      Hid (WAt (w1.setCell ⟨gw, 0, none⟩ (.slice A1 n1 c1)) gw base (l ++ bytesOf y) bad ∧ Wr base gw w0 (w1.setCell ⟨gw, 0, none⟩ (.slice A1 n1 c1))) →
      wpList Tryz.prog ops Q rest (a.put o.dst (.slice A1 n1 c1)) w1) :
    wpList Tryz.prog ops Q (o :: rest) a W := by
  have hbs : base ≤ W.heap.size := by have := blk_lt' hb; have := hB.size; omega
  refine print_append_str (w0 := W) (W := W) base hgd s x 33 9 5 ho Tryz.underlying33 Tryz.underlying9 info5 _ l y hs hx (own_move hO (fun k hk => hB.block k (own_lt hO k hk))) (Below.refl _ _) hbs hl ?_
  intro v1 w1 hO1 _ hg
  obtain ⟨⟨A1, c1, rfl⟩, h2, h3, h6, h4, h5⟩ := wapp_mem (l' := l ++ bytesOf y) hgw hb hO hB hg hO1
  exact h A1 _ c1 w1 h2 h3 h6 (Lib.hid ⟨h4, h5⟩)
theorem wapp_row {w0 W : World} {gw base c : Nat} {A : Option Addr} {l : List Int} {bad : Bool} (hgd : o.guard = none) (s x : Operand)
    (ho : o.op = .call { callee := .builtin .append, args := #[s, x], argTypes := #[33, 33] })
    (hgw : base ≤ gw) (hb : w0.heap[gw]? = some (.cells #[.slice A l.length c, .bool bad] 73 (0, 0))) (hO : w0.ownsRow base 5 1 (.slice A l.length c) l.length (nums .u8 l))
    (hB : Below w0.heap.size w0 W) (ys : List Int) (ad : Addr) (n cc : Nat) (hn : n = ys.length) (hys : ∀ j u, (nums .u8 ys)[j]? = some u → W.cell? (ad.add j) = some u)
    (hs : a.eval s = .slice A l.length c) (hx : a.eval x = .slice (some ad) n cc) (hl : l.length + ys.length ≤ 140737488355328)
    (h : ∀ A1 n1 c1 w1, w1.cell? ⟨gw, 0, none⟩ = some (.slice A l.length c) → w1.frozen? ⟨gw, 0, none⟩ = false → Wr base gw w0 w1 →
      Hid (WAt (w1.setCell ⟨gw, 0, none⟩ (.slice A1 n1 c1)) gw base (l ++ ys) bad ∧ Wr base gw w0 (w1.setCell ⟨gw, 0, none⟩ (.slice A1 n1 c1))) →
      wpList Tryz.prog ops Q rest (a.put o.dst (.slice A1 n1 c1)) w1) :
    wpList Tryz.prog ops Q (o :: rest) a W := by
  subst hn
  have hbs : base ≤ W.heap.size := by have := blk_lt' hb; have := hB.size; omega
  obtain ⟨i0, hi, hzz⟩ := Option.map_eq_some_iff.1 info5
  simp only [Prod.mk.injEq] at hzz
  obtain ⟨hz0, hz1, hz2⟩ := hzz
  refine wpList_append_own_at W hgd s x 33 ho base 5 i0 (.int .u8 0) 1 1 Tryz.underlying33 hi hz0 hz1 hz2 rfl (by omega) _ l.length (nums .u8 l) hs (own_move hO (fun k hk => hB.block k (own_lt hO k hk))) ad ys.length cc (nums .u8 ys) hx (by rw [nums_length, Nat.mul_one]) hys
    (by intro u hu; simp only [nums, List.mem_map] at hu; obtain ⟨b, _, rfl⟩ := hu; rfl) (by simp only [maxLen]; omega) (by omega) hbs ?_
  intro v1 w1 hO1 hg _ _
  have hO1' : w1.ownsRow base 5 1 v1 (l ++ ys).length (nums .u8 (l ++ ys)) := by rw [List.length_append, nums_append]; exact hO1
  obtain ⟨⟨A1, c1, rfl⟩, h2, h3, h6, h4, h5⟩ := wapp_mem (l' := l ++ ys) hgw hb hO hB hg hO1'
  exact h A1 _ c1 w1 h2 h3 h6 (Lib.hid ⟨h4, h5⟩)
theorem wstep_row {w0 W : World} {K : Act → World → Prop} {E : Prop} {gw base c : Nat} {A : Option Addr} {l : List Int} {bad : Bool} (hgd : o.guard = none) (s x : Operand)
    (ho : o.op = .call { callee := .builtin .append, args := #[s, x], argTypes := #[33, 33] })
    (hgw : base ≤ gw) (hb : w0.heap[gw]? = some (.cells #[.slice A l.length c, .bool bad] 73 (0, 0))) (hO : w0.ownsRow base 5 1 (.slice A l.length c) l.length (nums .u8 l))
    (hB : Below w0.heap.size w0 W) (ys : List Int) (hpos : 0 < ys.length) (ad : Addr) (n cc : Nat) (hn : n = ys.length) (hys : ∀ j u, (nums .u8 ys)[j]? = some u → W.cell? (ad.add j) = some u)
    (hs : a.eval s = .slice A l.length c) (hx : a.eval x = .slice (some ad) n cc) (hl : l.length + ys.length ≤ 140737488355328)
    (h : ∀ A1 n1 c1 w1, w1.cell? ⟨gw, 0, none⟩ = some (.slice A l.length c) → w1.frozen? ⟨gw, 0, none⟩ = false → Wr base gw w0 w1 →
      Hid (WAt (w1.setCell ⟨gw, 0, none⟩ (.slice A1 n1 c1)) gw base (l ++ ys) bad ∧ Wr base gw w0 (w1.setCell ⟨gw, 0, none⟩ (.slice A1 n1 c1))) →
      K (a.put o.dst (.slice A1 n1 c1)) w1) :
    if Region.wanted o (yielded ops a.tmps) = true then Oper.wp Tryz.prog o a W K Q else E := by
  subst hn
  have hbs : base ≤ W.heap.size := by have := blk_lt' hb; have := hB.size; omega
  obtain ⟨i0, hi, hzz⟩ := Option.map_eq_some_iff.1 info5
  simp only [Prod.mk.injEq] at hzz
  obtain ⟨hz0, hz1, hz2⟩ := hzz
  refine step_append_lies W hgd s x 33 ho base 5 i0 (.int .u8 0) 1 1 Tryz.underlying33 hi hz0 hz1 hz2 rfl (by omega) _ l.length (nums .u8 l) hs (own_move hO (fun k hk => hB.block k (own_lt hO k hk))) ad ys.length cc (nums .u8 ys) hx (by rw [nums_length, Nat.mul_one]) hys
    (by intro u hu; simp only [nums, List.mem_map] at hu; obtain ⟨b, _, rfl⟩ := hu; rfl) hpos (by simp only [maxLen]; omega) (by omega) hbs _ rfl ?_
  intro g cap w1 hO1 hg _ _
  have hO1' : w1.ownsRow base 5 1 (.slice (some ⟨g, 0, none⟩) (l ++ ys).length cap) (l ++ ys).length (nums .u8 (l ++ ys)) := by rw [List.length_append, nums_append]; exact hO1
  obtain ⟨_, h2, h3, h6, h4, h5⟩ := wapp_mem (l' := l ++ ys) hgw hb hO hB hg hO1'
  have := h _ _ cap w1 h2 h3 h6 (Lib.hid ⟨h4, h5⟩)
  rw [List.length_append] at this
  exact this
end
end Go.Proofs.YtcfgmkmllcfjjaaGreatDoor
set_option linter.unusedVariables false
set_option linter.unusedSimpArgs false
namespace Go.Proofs.YtcfgmkmllcfjjaaGreatDoor
open Go.RowKit Go.Proofs.YtcfgmkmllcfjjaaGreatDoorW.PrintWords Go.Proofs.YtcfgmkmllcfjjaaGreatDoorW.PrintMore PImageAll
def Wrote (gw base : Nat) (l : List Int) (bad : Bool) (w : World) (e : Ending) (w' : World) : Prop :=
  e = .returned (.tuple #[]) ∧ WAt w' gw base l bad ∧ Wr base gw w w'
def putis (ns : List Int) : List Int := ns.flatMap puti
theorem putis_take_succ (ns : List Int) (k : Nat) (h : k < ns.length) : putis (ns.take (k + 1)) = putis (ns.take k) ++ puti ns[k] := by
  unfold putis
  rw [List.take_add_one, List.getElem?_eq_getElem h, List.flatMap_append]
  simp
theorem putis_len (ns : List Int) (h : ∀ n ∈ ns, I64 n) : (putis ns).length ≤ 10 * ns.length := by
  induction ns with
  | nil => simp [putis]
  | cons n ns ih =>
    have h1 := puti_len (h n List.mem_cons_self)
    have h2 := ih (fun m hm => h m (List.mem_cons_of_mem _ hm))
    simp only [putis, List.flatMap_cons, List.length_append, List.length_cons] at h2 ⊢
    omega
theorem PutInt_any (n : Int) (h : I64 n) (w : World) : Calls Tryz.prog 104 #[.int .i64 n] w fun e w' =>
    ∃ g c, e = .returned (.slice (some ⟨g, 0, none⟩) (puti n).length c) ∧ (∀ j u, (nums .u8 (puti n))[j]? = some u → w'.cell? ((⟨g, 0, none⟩ : Addr).add j) = some u) ∧ Below w.heap.size w w' := by
  refine (wire_PutInt.calls 20 n (puti n) w (PutInt_f h)).mono ?_
  rintro e w' ⟨v, rfl, hr, hb⟩
  have ho := Kd.own_of_R hr
  obtain ⟨g, c, rfl, _, _⟩ := ho.form (by have := puti_pos n; omega)
  exact ⟨g, c, rfl, ho.cells (g := g) rfl, hb⟩
set_option maxHeartbeats 1000000 in
theorem numbers_any (gw base gn cc : Nat) (l ns : List Int) (bad : Bool) (w : World) (hW : WAt w gw base l bad) (hN : w.heap[gn]? = some (.cells (nums .i64 ns).toArray 2 (0, 0)))
    (hns : ∀ n ∈ ns, I64 n) (hcc : ns.length ≤ cc) (hcm : cc ≤ 9223372036854775807) (hl : l.length + 10 * ns.length ≤ 100000000000000) :
    Calls Tryz.prog 69 #[.pointer (some ⟨gw, 0, none⟩), .slice (some ⟨gn, 0, none⟩) ns.length cc] w fun e w' => Wrote gw base (l ++ putis ns) bad w e w' := by
  have HW := Lib.hid hW
  have HN := Lib.hid hN
  have HI := Lib.hid hns
  have hng : gn ≠ gw := by
    obtain ⟨_, A, c, hb, _⟩ := hW
    exact blk_ne hN hb (by decide)
  clear hW hN hns
  go_enter Tryz.func69, Tryz.ntmps69
  go_wp2_with fail
  go_loopw [8] (fun t8 wr => ∃ k : Nat, k ≤ ns.length ∧ t8 = .int .i64 k ∧ Hid (WAt wr gw base (l ++ putis (ns.take k)) bad) ∧ Hid (Wr base gw w wr)) (fun t8 _ => ns.length - (intOf t8).toNat)
  case atStart => exact ⟨0, by omega, rfl, by simpa [putis] using HW, Lib.hid Wr.refl⟩
  case round =>
    obtain ⟨k, hk, rfl, hA, hR⟩ := hrel
    by_cases hlt : k < ns.length
    · have i1 : (0 : Int) ≤ (k : Int) := by omega
      have i2 : (k : Int) < ns.length := by omega
      have hNr := Wr.blk hR.out HN.out hng (by decide)
      have hc : wr.cell? ⟨gn, k, none⟩ = some (.int .i64 ns[k]) := by
        rw [blk_cell hNr]
        simp [nums, List.getElem?_eq_getElem hlt]
      have hI := HI.out ns[k] (List.getElem_mem hlt)
      have hpl := putis_len (ns.take k) (fun n hn => HI.out n (List.mem_of_mem_take hn))
      have hp1 := puti_len hI
      have hp2 := puti_pos ns[k]
      rw [List.length_take] at hpl
      have HE := Lib.hid (show l ++ putis (ns.take (k + 1)) = (l ++ putis (ns.take k)) ++ puti ns[k] by rw [putis_take_succ ns k hlt, List.append_assoc])
      have HP := Lib.hid (fun W => PutInt_any ns[k] hI W)
      have hll : (l ++ putis (ns.take k)).length + (puti ns[k]).length ≤ 140737488355328 := by rw [List.length_append]; omega
      obtain ⟨hgw, A, c, hb, hO⟩ := hA.out
      have HB := Lib.hid hb
      have HO := Lib.hid hO
      have HL := Lib.hid hll
      have HP2 := Lib.hid hp2
      have hq := (blk_cell hb 0).trans rfl
      clear hb hO hNr hll hpl hp1 hI hp2
      generalize ns[k] = n at *
      generalize l ++ putis (ns.take k) = l1 at *
      go_wp2_with fail
      go_region_law (first
        | (go_simp; go_at_call 104; refine (HP.out _).mono ?_; rintro e w5 ⟨g5, c5, rfl, h5, hb5⟩; have H5 := Lib.hid h5; have hbk : Below wr.heap.size wr w5 := (by first | exact below_step (below_drew (Below.refl _ _)) hb5 | exact hb5); have hq5 := pw_cell_below hbk hq)
        | (refine wstep_row (w0 := wr) (by rfl) _ _ (by rfl) hgw HB.out HO.out (by first | exact hbk | exact below_drew hbk) (puti n) HP2.out _ _ _ (by rfl) (by exact H5.out) (by rfl) (by rfl) HL.out ?_; intro A6 n6 c6 w6 hc6 hf6 hk6 h6))
      all_goals
        go_wp2_with fail
        go_roundw
        case rel => exact ⟨k + 1, by omega, by go_num, by rw [HE.out]; exact Lib.hid h6.out.1, Lib.hid (hR.out.trans h6.out.2)⟩
        case measure => simp [intOf]; omega
    · obtain rfl : k = ns.length := by omega
      go_wp2_with fail
      go_end0
      rw [List.take_length] at hA
      exact ⟨rfl, hA.out, hR.out⟩
def txt (s : ByteArray) : List Int := puti s.size ++ bytesOf s
set_option maxHeartbeats 1000000 in
theorem text_any (gw base : Nat) (l : List Int) (bad : Bool) (s : ByteArray) (w : World) (hW : WAt w gw base l bad) (hs : s.size ≤ 9223372036854775807) (hl : l.length + 10 + s.size ≤ 100000000000000) :
    Calls Tryz.prog 73 #[.pointer (some ⟨gw, 0, none⟩), .string s] w fun e w' => Wrote gw base (l ++ txt s) bad w e w' := by
  have HW := Lib.hid hW
  have hI : I64 (s.size : Int) := ⟨by omega, by omega⟩
  have hb0 := below_new w (.cells #[.int .i64 (s.size : Int)] 2)
  have HN := Lib.hid (numbers_any gw base w.heap.size 1 l [(s.size : Int)] bad (w.alloc (.cells #[.int .i64 (s.size : Int)] 2)) (hW.below hb0) (blk_new w _) (by intro n hn; rw [List.mem_singleton] at hn; rw [hn]; exact hI) (by simp) (by simp) (by simp only [List.length_singleton]; omega))
  have HB0 := Lib.hid hb0
  have hpl := puti_len hI
  have hll : (l ++ puti s.size).length + s.size ≤ 140737488355328 := by rw [List.length_append]; omega
  have HL := Lib.hid hll
  have hE : l ++ txt s = (l ++ puti s.size) ++ bytesOf s := by rw [txt, List.append_assoc]
  have HE := Lib.hid hE
  have hp : putis [(s.size : Int)] = puti s.size := by simp [putis]
  rw [hp] at HN
  clear hW hI hb0 hpl hll hE hp
  generalize l ++ puti s.size = l1 at *
  go_enter Tryz.func73, Tryz.ntmps73
  go_wp2_with (first
    | (go_at_call 69; refine HN.out.mono ?_; rintro e w1 ⟨rfl, ⟨hgw, A, c, hb, hO⟩, hR⟩; have HB := Lib.hid hb; have HO := Lib.hid hO; have HR := Lib.hid hR; have hq := (blk_cell hb 0).trans rfl; clear hb hO hR)
    | (at_builtin; refine wapp_str (w0 := w1) rfl _ _ rfl hgw HB.out HO.out (Below.refl _ _) s rfl rfl HL.out ?_; intro A6 n6 c6 w6 hc6 hf6 hk6 h6))
  go_end0
  refine ⟨rfl, by rw [HE.out]; exact h6.out.1, (Wr.of_below HB0.out).trans (HR.out.trans h6.out.2)⟩
set_option maxHeartbeats 1000000 in
theorem truth_any (gw base : Nat) (l : List Int) (bad b : Bool) (w : World) (hW : WAt w gw base l bad) (hl : l.length ≤ 100000000000000) :
    Calls Tryz.prog 84 #[.pointer (some ⟨gw, 0, none⟩), .bool b] w fun e w' => Wrote gw base (l ++ [if b then 1 else 0]) bad w e w' := by
  obtain ⟨hgw, A, c, hb, hO⟩ := hW
  have HB := Lib.hid hb
  have HO := Lib.hid hO
  have hq := (blk_cell hb 0).trans rfl
  have hL : l.length + 1 ≤ 140737488355328 := by omega
  have HL := Lib.hid hL
  have hlt := blk_lt' hb
  have hne : gw ≠ w.heap.size := by omega
  have hq1 := pw_cell_below (below_new w (.cells #[.int .u8 1] 5)) hq
  have hq0 := pw_cell_below (below_new w (.cells #[.int .u8 0] 5)) hq
  have hn : ∀ y : Int, ∀ j u, (nums .u8 [y])[j]? = some u → (w.alloc (.cells #[.int .u8 y] 5)).cell? ((⟨w.heap.size, 0, none⟩ : Addr).add j) = some u :=
    fun y => World.news_of_block (cs := #[.int .u8 y]) (t := 5) (fr := (0, 0)) (heap_alloc_new w _)
  have HN := Lib.hid hn
  clear hb hO hL hn
  go_enter Tryz.func84, Tryz.ntmps84
  cases b
  · go_wp2_with (at_builtin; refine wapp_row (w0 := w) rfl _ _ rfl hgw HB.out HO.out (below_new w _) [0] ⟨w.heap.size, 0, none⟩ 1 1 rfl (HN.out 0) rfl rfl HL.out ?_; intro A6 n6 c6 w6 hc6 hf6 hk6 h6)
    go_wp2_with fail
    go_end0
    exact ⟨rfl, h6.out.1, h6.out.2⟩
  · go_wp2_with (at_builtin; refine wapp_row (w0 := w) rfl _ _ rfl hgw HB.out HO.out (below_new w _) [1] ⟨w.heap.size, 0, none⟩ 1 1 rfl (HN.out 1) rfl rfl HL.out ?_; intro A6 n6 c6 w6 hc6 hf6 hk6 h6)
    go_wp2_with fail
    go_end0
    exact ⟨rfl, h6.out.1, h6.out.2⟩
def PBox (w : World) (pb gw : Nat) : Prop := w.heap[pb]? = some (.cells #[.pointer (some ⟨gw, 0, none⟩)] 71 (0, 0))
theorem PBox.wr {w w' : World} {pb gw base : Nat} {l : List Int} {bad : Bool} (h : PBox w pb gw) (hW : WAt w gw base l bad) (hR : Wr base gw w w') : PBox w' pb gw := by
  obtain ⟨_, A, c, hb, _⟩ := hW
  exact Wr.blk hR h (blk_ne h hb (by decide)) (by decide)
theorem PBox.below {w w' : World} {pb gw : Nat} (h : PBox w pb gw) (hB : Below w.heap.size w w') : PBox w' pb gw := blk_below h hB
theorem WAt.neq {w : World} {gw base g : Nat} {l : List Int} {bad : Bool} {cs : Array Value} {t : TypeId} (hW : WAt w gw base l bad) (h : w.heap[g]? = some (.cells cs t (0, 0))) (ht : t ≠ 73) : g ≠ gw := by
  obtain ⟨_, A, c, hb, _⟩ := hW
  exact blk_ne h hb ht
theorem lit_cells (W : World) (y : Int) : ∀ j u, (nums .u8 [y])[j]? = some u → (W.alloc (.cells #[.int .u8 y] 5)).cell? ((⟨W.heap.size, 0, none⟩ : Addr).add j) = some u :=
  World.news_of_block (cs := #[.int .u8 y]) (t := 5) (fr := (0, 0)) (heap_alloc_new W _)
def encAttr (x : S58) : List Int := txt x.f0 ++ [IntKind.u8.wrap x.f1]
theorem txt_len (s : ByteArray) (h : s.size ≤ 9223372036854775807) : (txt s).length ≤ 10 + s.size := by
  have := puti_len (n := (s.size : Int)) ⟨by omega, by omega⟩
  rw [txt, List.length_append, bytesOf_length]
  omega
set_option maxHeartbeats 1000000 in
theorem wAttr_any (gw base pb : Nat) (l : List Int) (bad : Bool) (x : S58) (w : World) (hW : WAt w gw base l bad) (hP : PBox w pb gw) (hs : x.f0.size ≤ 9223372036854775807) (hl : l.length + 20 + x.f0.size ≤ 100000000000000) :
    Calls Tryz.prog 75 #[.agg #[.string x.f0, .int .i64 x.f1], .pointer (some ⟨pb, 0, none⟩)] w fun e w' => Wrote gw base (l ++ encAttr x) bad w e w' := by
  generalize hbx : (#[.string x.f0, .int .i64 x.f1] : Array Value) = bx
  have hb0 := below_new w (.cells #[.string x.f0, .int .i64 x.f1] 58)
  have hX := blk_new w (.cells #[.string x.f0, .int .i64 x.f1] 58)
  have hP0 := hP.below hb0
  have hW0 := hW.below hb0
  have HT := Lib.hid (text_any gw base l bad x.f0 (w.alloc (.cells #[.string x.f0, .int .i64 x.f1] 58)) hW0 hs (by omega))
  have hxg := hW0.neq hX (by decide)
  have HXG := Lib.hid hxg
  have HPG := Lib.hid (hW0.neq hP0 (by decide))
  have HB0 := Lib.hid hb0
  have HX := Lib.hid hX
  have HP := Lib.hid hP0
  have HW := Lib.hid hW0
  have hp0 := (blk_cell hP0 0).trans rfl
  have hx0 := (blk_cell hX 0).trans rfl
  have hll : (l ++ txt x.f0).length + 1 ≤ 140737488355328 := by have := txt_len x.f0 hs; rw [List.length_append]; omega
  have HL := Lib.hid hll
  have HE := Lib.hid (show l ++ encAttr x = (l ++ txt x.f0) ++ [IntKind.u8.wrap x.f1] by rw [encAttr, List.append_assoc])
  subst hbx
  clear hW hP hb0 hX hP0 hW0 hxg hll
  generalize l ++ txt x.f0 = l1 at *
  go_enter Tryz.func75, Tryz.ntmps75
  go_wp2_with (first
    | (go_at_call 73; refine HT.out.mono ?_; rintro e w1 ⟨rfl, hA, hR⟩; have hP1 := HP.out.wr HW.out hR; have HP1 : Hid (w1.heap[pb]? = some (.cells #[.pointer (some ⟨gw, 0, none⟩)] 71 (0, 0))) := Lib.hid hP1; have hX1 := Wr.blk hR HX.out HXG.out (by decide); have HX1 := Lib.hid hX1; obtain ⟨hgw, A, c, hb, hO⟩ := hA; have HB := Lib.hid hb; have HO := Lib.hid hO; have HR := Lib.hid hR; have hq : w1.cell? ⟨gw, 0, none⟩ = some (.slice A l1.length c) := (blk_cell hb 0).trans rfl; have hp1 : w1.cell? ⟨pb, 0, none⟩ = some (.pointer (some ⟨gw, 0, none⟩)) := (blk_cell hP1 0).trans rfl; have hx1 : w1.cell? ⟨w.heap.size, 1, none⟩ = some (.int .i64 x.f1) := (blk_cell hX1 1).trans rfl; have hbn := below_new w1 (.cells #[.int .u8 (IntKind.u8.wrap x.f1)] 5); have hq2 := pw_cell_below hbn hq; have hp2 := pw_cell_below hbn hp1; have hx2 := pw_cell_below hbn hx1; clear hbn; clear hb hO hR hP1 hX1 hp0 hx0))
  go_region_law
    ((refine wstep_row (w0 := w1) (by rfl) _ _ (by rfl) hgw HB.out HO.out (by first | exact below_drew (below_new _ _) | exact below_new _ _) [IntKind.u8.wrap x.f1] (Nat.succ_pos 0) _ _ _ (by rfl) (lit_cells w1 _) (by rfl) (by rfl) HL.out ?_; intro A6 n6 c6 w6 hc6 hf6 hk6 h6; have hp6 : w6.cell? ⟨pb, 0, none⟩ = some (.pointer (some ⟨gw, 0, none⟩)) := (blk_cell (Wr.blk hk6 HP1.out HPG.out (by decide)) 0).trans rfl))
  all_goals
    go_wp2_with fail
    go_end0
    exact ⟨rfl, by rw [HE.out]; exact h6.out.1, (Wr.of_below HB0.out).trans (HR.out.trans h6.out.2)⟩
end Go.Proofs.YtcfgmkmllcfjjaaGreatDoor
