/- Texts of the claim, merged in build order: QS, RF, QTA. -/
import Derived.Test.YtgnifglolbfamaaZAS
import Derived.Deep.RegionHeld3
import Derived.Test.YtgnifglolbfamaaZAU
import Derived.Test.YtgnifglolbfamaaZAT
/- (*Shelves).whole: every list's room holds its mark alone. -/
set_option linter.unusedVariables false
set_option linter.unusedSimpArgs false
namespace Go.Proofs.Ytgnifglolbfamaa
open Go.RowKit Go.Proofs.YtgnifglolbfamaaW.PrintWords

theorem markN_at {w : World} {i : Nat} {r : RE} (h : Marked w 73 3 (markN i) r) (m : Nat) (h1 : r.n ≤ m) (h2 : m < r.n + r.rm) : ∃ ad, r.A = some ad ∧ w.cell? ⟨(ad.add (m * 3)).block, (ad.add (m * 3)).off + 1, none⟩ = some (.string (textB i)) := by
  obtain ⟨g, hA, h0⟩ := mark_cell h rfl m 1 h1 h2 (by decide)
  refine ⟨⟨g, 0, none⟩, hA, ?_⟩
  rw [add_plain]
  exact h0
theorem marked_le {w : World} {e : TypeId} {sz : Nat} {l : List Value} {r : RE} (h : Marked w e sz l r) : r.n + r.rm ≤ 9223372036854775807 := by
  obtain ⟨xs, _, ho⟩ := h
  obtain ⟨_, _, _, h1, h2, _⟩ := own_shape ho
  omega

set_option maxHeartbeats 8000000 in
set_option maxRecDepth 100000 in
theorem shWhole_any (G H B0 : Nat) (es ss ns : List RE) (w : World) (hS : ShOk w G H B0 es ss ns) (h0 : ∀ r ∈ ss, r.rm = 0) (hl1 : ss.length ≤ 1000000000) (hl2 : ns.length ≤ 1000000000) :
    Calls Try.prog 22 #[.pointer (some ⟨H, 0, none⟩)] w fun e w' => e = .returned (.bool true) ∧ Below w.heap.size w w' := by
  obtain ⟨vS, vN, vF, vA, hIn⟩ := hS
  obtain ⟨n1, hn1⟩ : ∃ n1, n1 = ss.length := ⟨_, rfl⟩
  obtain ⟨n2, hn2⟩ : ∃ n2, n2 = ns.length := ⟨_, rfl⟩
  have r1 := hIn.at_.hS
  have r2 := hIn.at_.hN
  have r3 := hIn.at_.hF
  have r4 := hIn.at_.hA
  rw [← hn1] at r1 r3 hl1
  rw [← hn2] at r2 r4 hl2
  obtain ⟨A1, c1, rfl, p1, q1, o1, -⟩ := own_shape r1
  obtain ⟨A2, c2, rfl, p2, q2, o2, -⟩ := own_shape r2
  obtain ⟨A3, c3, rfl, p3, q3, o3, -⟩ := own_shape r3
  obtain ⟨A4, c4, rfl, p4, q4, o4, -⟩ := own_shape r4
  have HH := Lib.hid hIn.at_.hH
  have HIN := Lib.hid hIn
  have HN1 := Lib.hid hn1
  have HN2 := Lib.hid hn2
  have R1 := Lib.hid r1
  have R2 := Lib.hid r2
  have R3 := Lib.hid r3
  have R4 := Lib.hid r4
  have O1 := Lib.hid o1
  have O2 := Lib.hid o2
  have O3 := Lib.hid o3
  have O4 := Lib.hid o4
  have H0 := Lib.hid h0
  clear hIn hn1 hn2 r1 r2 r3 r4 o1 o2 o3 o4 h0
  go_enter Try.func22, Try.ntmps22
  go_wp2_with fail
  go_loopw [3] (fun t3 wr => ∃ i : Nat, i ≤ n1 ∧ t3 = .int .i64 i ∧ Hid (wr = w)) (fun t3 _ => n1 - (intOf t3).toNat)
  case atStart => exact ⟨0, by omega, rfl, Lib.hid rfl⟩
  case round =>
    obtain ⟨i, hi, rfl, hwr⟩ := hrel
    have hwr2 := hwr.out.symm
    clear hwr
    subst hwr2
    have f0 := (blk_cell HH.out 0).trans rfl
    have f2 := (blk_cell HH.out 2).trans rfl
    by_cases hlt : i < n1
    · have i1 : (0 : Int) ≤ (i : Int) := by omega
      have i2 : (i : Int) < n1 := by omega
      obtain ⟨g1, rfl⟩ := O1.out (by omega)
      obtain ⟨g3, rfl⟩ := O3.out (by omega)
      have hie : i < ss.length := by have := HN1.out; omega
      have cp : w.cell? ⟨g1, i, none⟩ = some (ss[i].v) := by
        rw [R1.out.cellAt i (by omega), List.getElem?_map, List.getElem?_eq_getElem hie]; rfl
      have cq : w.cell? ⟨g3, i, none⟩ = some (.int .i64 ss[i].n) := by
        rw [R3.out.cellAt i (by omega), List.getElem?_map, List.getElem?_eq_getElem hie]; rfl
      have hrm := H0.out _ (List.getElem_mem hie)
      generalize ss[i] = r at *
      unfold RE.v at cp
      rw [hrm] at cp
      rw [Nat.add_zero] at cp
      clear hrm hie
      generalize r.n = p at *
      generalize r.A = A at *
      generalize r.cap = cap at *
      go_wp2_with fail
      go_loopw [4] (fun t4 wr => t4 = .int .i64 p ∧ Hid (wr = w)) (fun _ _ => 0)
      case atStart => exact ⟨rfl, Lib.hid rfl⟩
      case round =>
        obtain ⟨rfl, hwr⟩ := hrel
        have hwr2 := hwr.out.symm
        clear hwr
        subst hwr2
        have d1 : decide (p < p) = false := decide_eq_false (by omega)
        go_wp2_with fail
        go_roundw
        case rel => exact ⟨i + 1, by omega, by go_num, Lib.hid (by trivial)⟩
        case measure => simp [intOf]; omega
    · obtain rfl : i = n1 := by omega
      go_wp2_with fail
      clear f0 f2
      go_loopw [5] (fun t5 wr => ∃ i : Nat, i ≤ n2 ∧ t5 = .int .i64 i ∧ Below w.heap.size w wr) (fun t5 _ => n2 - (intOf t5).toNat)
      case atStart => exact ⟨0, by omega, rfl, Below.refl _ _⟩
      case round =>
        obtain ⟨j, hj, rfl, hb⟩ := hrel
        generalize wr = w2 at *
        have hsz := hb.size
        have hH2 := blk_below HH.out hb
        have f1 := (blk_cell hH2 1).trans rfl
        have f3 := (blk_cell hH2 3).trans rfl
        have HH2 := Lib.hid hH2
        clear hH2
        by_cases hjl : j < n2
        · have i1 : (0 : Int) ≤ (j : Int) := by omega
          have i2 : (j : Int) < n2 := by omega
          obtain ⟨g2, rfl⟩ := O2.out (by omega)
          obtain ⟨g4, rfl⟩ := O4.out (by omega)
          have hie : j < ns.length := by have := HN2.out; omega
          have cp : w2.cell? ⟨g2, j, none⟩ = some (ns[j].v) := by
            rw [(pw_own_below R2.out hb).cellAt j (by omega), List.getElem?_map, List.getElem?_eq_getElem hie]; rfl
          have cq : w2.cell? ⟨g4, j, none⟩ = some (.int .i64 ns[j].n) := by
            rw [(pw_own_below R4.out hb).cellAt j (by omega), List.getElem?_map, List.getElem?_eq_getElem hie]; rfl
          have hmk := (HIN.out.mN j _ (List.getElem?_eq_getElem hie)).only (S := fun _ => False) (Only.of_below hb) (fun _ _ h => h)
          generalize ns[j] = r at *
          have hsh := marked_le hmk
          unfold RE.v at cp
          obtain ⟨q, hq⟩ : ∃ q, q = r.n + r.rm := ⟨_, rfl⟩
          rw [← hq] at cp hsh
          obtain ⟨p, hp⟩ : ∃ p, p = r.n := ⟨_, rfl⟩
          rw [← hp] at cq
          have hpq : p ≤ q := by omega
          have HMK := Lib.hid hmk
          have HQ := Lib.hid hq
          have HPP := Lib.hid hp
          have HBB := Lib.hid hb
          obtain ⟨A, hA⟩ : ∃ A, A = r.A := ⟨_, rfl⟩
          rw [← hA] at cp
          have HA := Lib.hid hA
          clear hmk hq hp hA hie hb
          generalize r.cap = cap at *
          go_wp2_with fail
          go_loopw [6] (fun t6 wr => ∃ k : Nat, p ≤ k ∧ k ≤ q ∧ t6 = .int .i64 k ∧ Below w2.heap.size w2 wr) (fun t6 _ => q - (intOf t6).toNat)
          case atStart => exact ⟨p, by omega, by omega, rfl, Below.refl _ _⟩
          case round =>
            obtain ⟨k, hpk, hk, rfl, hb3⟩ := hrel
            generalize wr = w3 at *
            have hsz3 := hb3.size
            have f1 := pw_cell_below hb3 f1
            have f3 := pw_cell_below hb3 f3
            have cp := pw_cell_below hb3 cp
            by_cases hkl : k < q
            · have i3 : (0 : Int) ≤ (k : Int) := by omega
              have i4 : (k : Int) < q := by omega
              obtain ⟨ad, had, e1⟩ := markN_at (HMK.out.only (S := fun _ => False) (Only.of_below hb3) (fun _ _ h => h)) k (by have := HPP.out; omega) (by have := HQ.out; omega)
              have hAa : A = some ad := HA.out.trans had
              subst hAa
              have HTX := Lib.hid (fun w => text_any j (by omega) w)
              generalize textB j = tb at *
              have HB3 := Lib.hid hb3
              have HKeep := Lib.hid (show ∀ w', Below w3.heap.size w3 w' → w'.cell? ⟨H, 1, none⟩ = some (.slice (some ⟨g2, 0, none⟩) n2 c2) ∧ w'.cell? ⟨g2, j, none⟩ = some (.slice (some ad) q cap) ∧ w'.cell? ⟨(ad.add (k * 3)).block, (ad.add (k * 3)).off + 1, none⟩ = some (.string tb) from fun w' hb => ⟨pw_cell_below hb f1, pw_cell_below hb cp, pw_cell_below hb e1⟩)
              clear had hb3
              go_wp2_with fail
              go_region_held3 (fun w' => w'.cell? ⟨H, 1, none⟩ = some (.slice (some ⟨g2, 0, none⟩) n2 c2) ∧ w'.cell? ⟨g2, j, none⟩ = some (.slice (some ad) q cap) ∧ w'.cell? ⟨(ad.add (k * 3)).block, (ad.add (k * 3)).off + 1, none⟩ = some (.string tb)) (first | exact HKeep.out _ (Below.refl _ _) | exact HKeep.out _ (below_drew (Below.refl _ _)) | exact HKeep.out _ (by assumption) | exact HKeep.out _ (below_drew (by assumption))) ((go_at_call 47; refine (HTX.out _).mono ?_; rintro e w5 ⟨rfl, hb5⟩; have hbk : Below w3.heap.size w3 w5 := (by first | exact below_step (below_drew (Below.refl _ _)) hb5 | exact hb5)))
              go_wp2_with fail
              have HB6 := Lib.hid (below_step HB3.out hbk)
              go_roundw
              case rel => exact ⟨k + 1, by omega, by omega, by go_num, HB6.out⟩
              case measure => simp [intOf]; omega
            · obtain rfl : k = q := by omega
              have HB4 := Lib.hid (below_step HBB.out hb3)
              clear hb3
              go_wp2_with fail
              go_roundw
              case rel => exact ⟨j + 1, by omega, by go_num, HB4.out⟩
              case measure => simp [intOf]; omega
        · obtain rfl : j = n2 := by omega
          go_wp2_with fail
          go_ret
          exact ⟨rfl, hb⟩
end Go.Proofs.Ytgnifglolbfamaa

/- What the law's walk asks of two layouts; the negated stages of a stage that is being written over (NLf). -/
set_option linter.unusedVariables false
set_option linter.unusedSimpArgs false
namespace Go.Proofs.Ytgnifglolbfamaa
open Go.RowKit Go.Proofs.YtgnifglolbfamaaW.PrintWords

theorem info71 : (Try.prog.info? 71).map (fun i => (i.zero, i.size, i.bytes)) = some (some (.agg #[.string ⟨#[]⟩, .string ⟨#[]⟩, .bool false, .slice none 0 0, .slice none 0 0, .slice none 0 0, .slice none 0 0]), 7, 136) := by kernel_rfl
def stageC (v : ByteArray) : List Value := [.string ⟨#[]⟩, .string v, .bool false, .slice none 0 0, .slice none 0 0, .slice none 0 0, .slice none 0 0]
theorem stageC_one (v : ByteArray) : ∀ u ∈ stageC v, u.oneCell' = true := by
  intro u hu
  simp only [stageC, List.mem_cons, List.not_mem_nil, or_false] at hu
  rcases hu with rfl | rfl | rfl | rfl | rfl | rfl | rfl <;> rfl
def negC (v : ByteArray) : List Value := [.string ⟨#[]⟩, .string v, .slice none 0 0]
theorem negC_one (v : ByteArray) : ∀ u ∈ negC v, u.oneCell' = true := by
  intro u hu
  simp only [negC, List.mem_cons, List.not_mem_nil, or_false] at hu
  rcases hu with rfl | rfl | rfl <;> rfl
theorem size71 : (Try.prog.info? 71).map (·.size) = some 7 := by kernel_rfl
theorem size73 : (Try.prog.info? 73).map (·.size) = some 3 := by kernel_rfl
theorem sh_init (w : World) : ShOk ((w.alloc (.cells #[.slice none 0 0, .slice none 0 0] 61)).alloc (.cells #[.slice none 0 0, .slice none 0 0, .slice none 0 0, .slice none 0 0] 66)) w.heap.size (w.heap.size + 1) w.heap.size [] [] [] := by
  have hb1 := below_new w (.cells #[.slice none 0 0, .slice none 0 0] 61)
  have hb2 := below_new (w.alloc (.cells #[.slice none 0 0, .slice none 0 0] 61)) (.cells #[.slice none 0 0, .slice none 0 0, .slice none 0 0, .slice none 0 0] 66)
  have h1 := blk_below (blk_new w (.cells #[.slice none 0 0, .slice none 0 0] 61)) hb2
  have h2 := blk_new (w.alloc (.cells #[.slice none 0 0, .slice none 0 0] 61)) (.cells #[.slice none 0 0, .slice none 0 0, .slice none 0 0, .slice none 0 0] 66)
  rw [alloc_size'] at h2
  have nn : ∀ k, (Value.slice none 0 0).ownBlock ≠ some k := fun k h => by cases h
  refine ⟨.slice none 0 0, .slice none 0 0, .slice none 0 0, .slice none 0 0, ⟨⟨h2, own_nil _ _ _ _, own_nil _ _ _ _, own_nil _ _ _ _, own_nil _ _ _ _⟩, ⟨⟨_, _, ⟨h1, own_nil _ _ _ _, own_nil _ _ _ _⟩, fun k hk => absurd hk (nn k), fun k hk => absurd hk (nn k)⟩, fun hp => ?_, fun i r hi => (by simp at hi), fun r hr => (by cases hr)⟩,
    fun k hk => absurd hk (nn k), fun k hk => absurd hk (nn k), fun k hk => absurd hk (nn k), fun k hk => absurd hk (nn k), fun k hk => absurd hk (nn k), by omega, fun i r hi => (by simp at hi), fun i r hi => (by simp at hi), fun r hr => (by cases hr), fun r hr => (by cases hr), fun r hr => (by cases hr)⟩⟩
  rcases hp with h | h | h | h | h | h
  · omega
  · omega
  all_goals exact absurd h (nn _)
theorem lay_stages {w : World} {y y' : Lay} {n : Nat} (hw : WfL y) (hw' : WfL y') (hn : y.l.length = n) (he : y'.l.map sgT = y.l.map sgT) (h : AllOwn w (entL y)) (h' : AllOwn w (entL y')) :
    Calls Try.prog 18 #[.slice (some ⟨y.S, 0, none⟩) n n, .slice (some ⟨y'.S, 0, none⟩) n n] w (True_ w) := by
  have r := (read_L hw h).1
  have r' := (read_L hw' h').1
  have hl : y'.l.length = y.l.length := by have := congrArg List.length he; rwa [List.length_map, List.length_map] at this
  rw [he, hl] at r'
  subst hn
  have := sameStages_same (y.l.map sgT) _ _ y.l.length y.l.length w (by rw [List.length_map]; exact r) (by rw [List.length_map]; exact r')
  rw [List.length_map] at this
  exact this
theorem lay_finals {w : World} {y y' : Lay} (hw : WfL y) (hw' : WfL y') (he : rdH y'.fin = rdH y.fin) (h : AllOwn w (entL y)) (h' : AllOwn w (entL y')) : Calls Try.prog 19 #[svT y.fin, svT y'.fin] w (True_ w) := by
  have r := (read_L hw h).2
  have r' := (read_L hw' h').2
  have hl : y'.fin.2.2.length = y.fin.2.2.length := by have := congrArg List.length he; unfold rdH at this; rwa [List.length_map, List.length_map] at this
  rw [he, hl] at r'
  have hrl : (rdH y.fin).length = y.fin.2.2.length := by unfold rdH; rw [List.length_map]
  have := sameExprs_same (rdH y.fin) _ _ y.fin.2.1 y'.fin.2.1 w (by rw [hrl]; exact r) (by rw [hrl]; exact r')
  rw [hrl] at this
  unfold svT
  rw [hl]
  exact this
theorem lay_row {w : World} {y : Lay} (h : AllOwn w (entL y)) : RowD w 71 7 (.slice (some ⟨y.S, 0, none⟩) y.l.length y.l.length) y.l.length 0 (y.l.flatMap cellsS) := ⟨_, h _ List.mem_cons_self, rfl⟩
theorem lay_entS {w : World} {y : Lay} (h : AllOwn w (entL y)) (i : Nat) (hi : i < y.l.length) : AllOwn w (entS y.l[i]) := h.sub (fun E hE => List.mem_cons_of_mem _ (List.mem_append_right _ (List.mem_flatMap.2 ⟨_, List.getElem_mem hi, hE⟩)))
theorem keys_entS (s : TS) : keys (entS s) = keys (entN s.n) ++ (keys (entH s.b) ++ (keys (entH s.t) ++ keys (entH s.c))) := by unfold entS; rw [keys_append, keys_append, keys_append]
/-- The parts of a stage are different. -/
theorem parts_S {s : TS} (h : (keys (entS s)).Nodup) : (keys (entN s.n)).Nodup ∧ (keys (entH s.b)).Nodup ∧ (keys (entH s.t)).Nodup ∧ (keys (entH s.c)).Nodup ∧ (∀ b ∈ keys (entN s.n), b ∉ keys (entH s.b) ∧ b ∉ keys (entH s.t) ∧ b ∉ keys (entH s.c)) ∧ (∀ b ∈ keys (entH s.b), b ∉ keys (entH s.t) ∧ b ∉ keys (entH s.c)) ∧ ∀ b ∈ keys (entH s.t), b ∉ keys (entH s.c) := by
  rw [keys_entS, List.nodup_append] at h
  obtain ⟨h1, h2, h3⟩ := h
  rw [List.nodup_append] at h2
  obtain ⟨h4, h5, h6⟩ := h2
  rw [List.nodup_append] at h5
  obtain ⟨h7, h8, h9⟩ := h5
  exact ⟨h1, h4, h7, h8, fun b hb => ⟨fun h => h3 b hb b (List.mem_append_left _ h) rfl, fun h => h3 b hb b (List.mem_append_right _ (List.mem_append_left _ h)) rfl, fun h => h3 b hb b (List.mem_append_right _ (List.mem_append_right _ h)) rfl⟩,
    fun b hb => ⟨fun h => h6 b hb b (List.mem_append_left _ h) rfl, fun h => h6 b hb b (List.mem_append_right _ h) rfl⟩, fun b hb h => h9 b hb b h rfl⟩
theorem parts_N {x : HG} (h : (keys (entN x)).Nodup) : (∀ j (hj : j < x.2.2.length), (keys (entH x.2.2[j].c)).Nodup ∧ ∀ b, x.1 = some b → b ∉ keys (entH x.2.2[j].c)) ∧ (∀ j k (hj : j < x.2.2.length) (hk : k < x.2.2.length), j ≠ k → ∀ b ∈ keys (entH x.2.2[j].c), b ∉ keys (entH x.2.2[k].c)) := by
  have e : keys (entN x) = x.1.toList ++ x.2.2.flatMap (fun g => keys (entH g.c)) := by
    unfold entN
    rw [keys_append, keys_flat]
    congr 1
    cases hx : x.1 with
    | none => unfold entX3; rfl
    | some g => unfold entX3; rfl
  rw [e, List.nodup_append] at h
  obtain ⟨h1, h2, h3⟩ := h
  obtain ⟨d1, d2⟩ := flat_disj h2
  exact ⟨fun j hj => ⟨d1 j hj, fun b hb hk => h3 b (by rw [hb]; exact List.mem_singleton.2 rfl) b (List.mem_flatMap.2 ⟨_, List.getElem_mem hj, hk⟩) rfl⟩, d2⟩
theorem key_N {x : HG} {b : Nat} (h : x.1 = some b) : b ∈ keys (entN x) := by
  unfold entN
  rw [keys_append, h]
  exact List.mem_append_left _ (List.mem_singleton.2 rfl)
theorem key_C {x : HG} {j : Nat} (hj : j < x.2.2.length) : ∀ b ∈ keys (entH x.2.2[j].c), b ∈ keys (entN x) := fun b hb => by
  obtain ⟨E, hE, rfl⟩ := List.mem_map.1 hb
  exact List.mem_map.2 ⟨E, List.mem_append_right _ (List.mem_flatMap.2 ⟨_, List.getElem_mem hj, hE⟩), rfl⟩
theorem key_SN {s : TS} : ∀ b ∈ keys (entN s.n), b ∈ keys (entS s) := fun b hb => by rw [keys_entS]; exact List.mem_append_left _ hb
theorem svT_block {α : Type} (x : Option Nat × Nat × List α) {b : Nat} (h : (svT x).ownBlock = some b) : x.1 = some b := by
  unfold svT at h
  cases hx : x.1 with
  | none => rw [hx] at h; cases h
  | some g => rw [hx] at h; simpa [Value.ownBlock] using h

/-- The negated stages: j are written over, from the j'-th on their conditions stand. -/
structure NLf (yl : Lay) (Wk : World) (i : Nat) (s : TS) (v : ByteArray) (j j' : Nat) (w : World) : Prop where
  l : Lft yl Wk i (i + 1) ((s.n.2.2.drop j').flatMap (fun g => entH g.c)) w
  row : ∃ xs, w.ownsRow 0 73 3 (svT s.n) s.n.2.2.length xs ∧ xs.drop (j * 3) = (s.n.2.2.flatMap cellsG).drop (j * 3) ∧ (0 < j → xs[1]? = some (.string v))
theorem NLf.begin {yl : Lay} {Wk w : World} {i : Nat} {s : TS} (v : ByteArray) (hw : WfN s.n) (h : Lft yl Wk i (i + 1) (entN s.n) w) : NLf yl Wk i s v 0 0 w :=
  ⟨⟨h.only, h.rest, h.row, fun E hE => h.left E (List.mem_append_right _ (by rwa [List.drop_zero] at hE))⟩, ⟨_, own_N hw (h.left.sub (fun E hE => List.mem_append_left _ hE)), rfl, fun h => absurd h (by omega)⟩⟩
theorem drop_ent {x : HG} {j : Nat} {E : Ent} (h : E ∈ (x.2.2.drop j).flatMap (fun g => entH g.c)) : ∃ k, ∃ hk : k < x.2.2.length, j ≤ k ∧ E ∈ entH x.2.2[k].c := by
  obtain ⟨g, hg, hE⟩ := List.mem_flatMap.1 h
  obtain ⟨k, hk, rfl⟩ := List.mem_iff_getElem.1 hg
  rw [List.length_drop] at hk
  rw [List.getElem_drop] at hE
  exact ⟨j + k, by omega, by omega, hE⟩
theorem drop_succ_ent {x : HG} {j : Nat} {E : Ent} (h : E ∈ (x.2.2.drop (j + 1)).flatMap (fun g => entH g.c)) : E ∈ (x.2.2.drop j).flatMap (fun g => entH g.c) := by
  obtain ⟨g, hg, hE⟩ := List.mem_flatMap.1 h
  refine List.mem_flatMap.2 ⟨g, ?_, hE⟩
  rw [show j + 1 = j + 1 from rfl, ← List.drop_drop] at hg
  exact List.mem_of_mem_drop hg
theorem NLf.own {yl : Lay} {Wk w : World} {i j : Nat} {s : TS} {v : ByteArray} {jr : Nat} (h : NLf yl Wk i s v jr j w) (hj : j < s.n.2.2.length) : AllOwn w (entH s.n.2.2[j].c) := h.l.left.sub (fun E hE => List.mem_flatMap.2 ⟨_, by
  rw [List.drop_eq_getElem_cons hj]
  exact List.mem_cons_self, hE⟩)
theorem NLf.same {yl : Lay} {Wk w w' : World} {i : Nat} {s : TS} {v : ByteArray} {j j' : Nat} (hnd : (keys (entL yl)).Nodup) (hlt : ∀ b ∈ keys (entL yl), b < Wk.heap.size) (hi : i < yl.l.length) (h : NLf yl Wk i s v j j' w) (ho : Only (fun _ => False) w w') : NLf yl Wk i s v j j' w' := by
  obtain ⟨xs, h1, h2⟩ := h.row
  exact ⟨h.l.step hnd hlt hi ho (fun _ h => h.elim) (fun E hE => ⟨hE, fun h => h⟩), ⟨xs, ho.own h1 (fun _ _ h => h), h2⟩⟩
theorem NLf.spoil {yl : Lay} {Wk w w' : World} {i : Nat} {s : TS} {v : ByteArray} {j : Nat} (hnd : (keys (entL yl)).Nodup) (hlt : ∀ b ∈ keys (entL yl), b < Wk.heap.size) (hi : i < yl.l.length) (hs : yl.l[i] = s) (h : NLf yl Wk i s v j j w) (hj : j < s.n.2.2.length) (ho : Only (fun b => b ∈ keys (entH s.n.2.2[j].c)) w w') : NLf yl Wk i s v j (j + 1) w' := by
  subst hs
  obtain ⟨xs, h1, h2⟩ := h.row
  obtain ⟨_, _, d2, _⟩ := lay_disj hnd
  obtain ⟨pn, _⟩ := parts_S (d2 i hi).1
  obtain ⟨p1, p2⟩ := parts_N pn
  refine ⟨h.l.step hnd hlt hi ho (fun b hb => Or.inl (key_SN b (key_C hj b hb))) (fun E hE => ⟨drop_succ_ent hE, fun hb => ?_⟩), ⟨xs, ho.own h1 (fun b hb hs => ?_), h2⟩⟩
  · obtain ⟨k, hk, hjk, hE⟩ := drop_ent hE
    exact p2 j k hj hk (by omega) E.b hb (List.mem_map.2 ⟨E, hE, rfl⟩)
  · exact (p1 j hj).2 b (svT_block _ hb) hs
theorem NLf.store {yl : Lay} {Wk w w' : World} {i : Nat} {s : TS} {v : ByteArray} {j : Nat} {xs xs' : List Value} (hnd : (keys (entL yl)).Nodup) (hlt : ∀ b ∈ keys (entL yl), b < Wk.heap.size) (hi : i < yl.l.length) (hs : yl.l[i] = s) (h : Lft yl Wk i (i + 1) ((s.n.2.2.drop (j + 1)).flatMap (fun g => entH g.c)) w)
    (hx : xs.drop (j * 3) = (s.n.2.2.flatMap cellsG).drop (j * 3)) (hx1 : 0 < j → xs[1]? = some (.string v)) (hO : w'.ownsRow 0 73 3 (svT s.n) s.n.2.2.length xs') (hd : xs'.drop ((j + 1) * 3) = xs.drop ((j + 1) * 3)) (hp : ∀ i, i < j * 3 → xs'[i]? = xs[i]?) (hq : ∀ i, i < 3 → xs'[j * 3 + i]? = (negC v)[i]?) (ho : Only (fun b => (svT s.n).ownBlock = some b) w w') : NLf yl Wk i s v (j + 1) (j + 1) w' := by
  subst hs
  obtain ⟨_, _, d2, _⟩ := lay_disj hnd
  obtain ⟨pn, _⟩ := parts_S (d2 i hi).1
  obtain ⟨p1, p2⟩ := parts_N pn
  refine ⟨h.step hnd hlt hi ho (fun b hb => Or.inl (key_SN b (key_N (svT_block _ hb)))) (fun E hE => ⟨hE, fun hb => ?_⟩), ⟨xs', hO, ?_, fun _ => ?_⟩⟩
  · obtain ⟨k, hk, hjk, hE⟩ := drop_ent hE
    exact (p1 k hk).2 E.b (svT_block _ hb) (List.mem_map.2 ⟨E, hE, rfl⟩)
  · rw [hd, show (j + 1) * 3 = j * 3 + 3 by omega, ← List.drop_drop, hx, List.drop_drop]
  · rcases Nat.eq_zero_or_pos j with h0 | h0
    · subst h0
      have := hq 1 (by decide)
      rw [Nat.zero_mul, Nat.zero_add] at this
      exact this
    · rw [hp 1 (by omega)]
      exact hx1 h0
theorem row7 {w : World} {y : Lay} {k i : Nat} (h : RowD w 71 7 (.slice (some ⟨y.S, 0, none⟩) y.l.length y.l.length) y.l.length k (y.l.flatMap cellsS)) (hi : i < y.l.length) (hk : k ≤ i) :
    w.cell? ⟨y.S, i * 7, none⟩ = some (.string y.l[i].f0) ∧ w.cell? ⟨y.S, i * 7 + 1, none⟩ = some (.string y.l[i].f1) ∧ w.cell? ⟨y.S, i * 7 + 2, none⟩ = some (.bool y.l[i].f2) ∧ w.cell? ⟨y.S, i * 7 + 3, none⟩ = some (svT y.l[i].n) ∧ w.cell? ⟨y.S, i * 7 + 4, none⟩ = some (svT y.l[i].b) ∧ w.cell? ⟨y.S, i * 7 + 5, none⟩ = some (svT y.l[i].t) ∧ w.cell? ⟨y.S, i * 7 + 6, none⟩ = some (svT y.l[i].c) := by
  have := RowD.at_ (f := cellsS) (fun _ => rfl) h i hi hk
  exact ⟨this 0 (by decide), this 1 (by decide), this 2 (by decide), this 3 (by decide), this 4 (by decide), this 5 (by decide), this 6 (by decide)⟩
theorem row3 {w : World} {N cap k j : Nat} {l : List TG} (h : RowD w 73 3 (.slice (some ⟨N, 0, none⟩) l.length cap) l.length k (l.flatMap cellsG)) (hj : j < l.length) (hk : k ≤ j) :
    w.cell? ⟨N, j * 3 + 1, none⟩ = some (.string l[j].f1) ∧ w.cell? ⟨N, j * 3 + 2, none⟩ = some (svT l[j].c) := by
  have := RowD.at_ (f := cellsG) (fun _ => rfl) h j hj hk
  exact ⟨this 1 (by decide), this 2 (by decide)⟩
theorem wfN_some {x : HG} (h : WfN x) {j : Nat} (hj : j < x.2.2.length) : ∃ N, x.1 = some N := by
  cases hx : x.1 with
  | none => have := (h.n hx).2; rw [this] at hj; simp at hj
  | some N => exact ⟨N, rfl⟩
theorem info73' : (Try.prog.info? 73).map (fun i => (i.zero, i.size, i.bytes)) = some (some (.agg #[.string ⟨#[]⟩, .string ⟨#[]⟩, .slice none 0 0]), 3, 56) := by kernel_rfl
end Go.Proofs.Ytgnifglolbfamaa

/- Room.twin: what is told of a copy with marks behind its lists. -/
set_option linter.unusedVariables false
set_option linter.unusedSimpArgs false
namespace Go.Proofs.Ytgnifglolbfamaa
open Go.RowKit Go.Proofs.YtgnifglolbfamaaW.PrintWords

/-- w'' is as w on all blocks of expressions from lo on, ahead of hi, that block aside. -/
def Agree (lo hi : Nat) (g : Option Nat) (w w'' : World) : Prop := ∀ b, lo ≤ b → b < hi → g ≠ some b → (∃ c, w.heap[b]? = some (.cells c 31 (0, 0))) → w''.heap[b]? = w.heap[b]?
/-- A list that is read, in whatever world agrees on the blocks from lo to hi. -/
def RdR (lo hi : Nat) (w : World) (A : Option Addr) (n : Nat) (xs : List Ex) : Prop := ∀ w'', Agree lo hi none w w'' → kEx.C w'' A n xs
theorem RdR.move {lo hi : Nat} {w w' : World} {A : Option Addr} {n : Nat} {xs : List Ex} (h : RdR lo hi w A n xs) (ha : Agree lo hi none w w') : RdR lo hi w' A n xs := by
  intro w'' hw
  refine h w'' (fun b h1 h2 h3 h4 => ?_)
  have e := ha b h1 h2 h3 h4
  obtain ⟨c, hc⟩ := h4
  exact (hw b h1 h2 h3 ⟨c, e.trans hc⟩).trans e
theorem RdR.wide {lo hi lo' hi' : Nat} {w : World} {A : Option Addr} {n : Nat} {xs : List Ex} (h : RdR lo hi w A n xs) (h1 : lo' ≤ lo) (h2 : hi ≤ hi') : RdR lo' hi' w A n xs :=
  fun w'' hw => h w'' (fun b h3 h4 h5 h6 => hw b (by omega) (by omega) h5 h6)
theorem RdR.here {lo hi : Nat} {w : World} {A : Option Addr} {n : Nat} {xs : List Ex} (h : RdR lo hi w A n xs) : kEx.C w A n xs := h w (fun _ _ _ _ _ => rfl)
/-- A list with twelve marks at its end. -/
def MarkV (lo hi : Nat) (w : World) (v : Value) : Prop := ∃ g n c cells, v = .slice (some ⟨g, 0, none⟩) (n + 12) c ∧ lo ≤ g ∧ g < hi ∧ w.heap[g]? = some (.cells cells 31 (0, 0)) ∧ n + 12 ≤ 9223372036854775807 ∧ ∀ k, k < 12 → cells[(n + k) * 10]? = some (.int .i64 77)
theorem MarkV.move {lo hi : Nat} {w w' : World} {v : Value} (h : MarkV lo hi w v) (ha : Agree lo hi none w w') : MarkV lo hi w' v := by
  obtain ⟨g, n, c, cells, rfl, h1, h2, h3, h4, h5⟩ := h
  exact ⟨g, n, c, cells, rfl, h1, h2, (ha g h1 h2 (by simp) ⟨cells, h3⟩).trans h3, h4, h5⟩
theorem MarkV.wide {lo hi lo' hi' : Nat} {w : World} {v : Value} (h : MarkV lo hi w v) (h1 : lo' ≤ lo) (h2 : hi ≤ hi') : MarkV lo' hi' w v := by
  obtain ⟨g, n, c, cells, rfl, h3, h4, h5⟩ := h
  exact ⟨g, n, c, cells, rfl, by omega, by omega, h5⟩
/-- The lists that were marked. -/
structure RoomT (w : World) (R : Nat) (ls : List Value) (vL : Value) : Prop where
  hR : w.heap[R]? = some (.cells #[vL] 94 (0, 0))
  hL : w.ownsRow 0 24 1 vL ls.length ls
def RS (R : Nat) (vL : Value) (b : Nat) : Prop := b = R ∨ vL.ownBlock = some b
theorem RoomT.keep31 {w w' : World} {R : Nat} {ls : List Value} {vL : Value} (h : RoomT w R ls vL) (ho : Only (RS R vL) w w') : ∀ b : Nat, (∃ c, w.heap[b]? = some (.cells c 31 (0, 0))) → w'.heap[b]? = w.heap[b]? := by
  rintro b ⟨c, hc⟩
  refine ho.block b (Array.getElem?_eq_some_iff.1 hc).1 (fun hs => ?_)
  rcases hs with rfl | hs
  · exact two_types31 hc h.hR (by decide)
  · obtain ⟨c', hc'⟩ := own_typed h.hL b hs
    exact two_types31 hc hc' (by decide)
theorem RoomT.only {w w' : World} {R : Nat} {ls : List Value} {vL : Value} {S : Nat → Prop} (h : RoomT w R ls vL) (ho : Only S w w') (hn : ∀ b, RS R vL b → ¬ S b) : RoomT w' R ls vL :=
  ⟨ho.blk h.hR (hn R (Or.inl rfl)), ho.own h.hL (fun k hk => hn k (Or.inr hk))⟩
theorem RoomT.not31 {w : World} {R : Nat} {ls : List Value} {vL : Value} (h : RoomT w R ls vL) : ∀ b, RS R vL b → ¬ ∃ c, w.heap[b]? = some (.cells c 31 (0, 0)) := by
  rintro b hs ⟨c, hc⟩
  rcases hs with rfl | hs
  · exact two_types31 hc h.hR (by decide)
  · obtain ⟨c', hc'⟩ := own_typed h.hL b hs
    exact two_types31 hc hc' (by decide)
def exCellsT (x : Ex) (v9 : Value) : List Value := [.int .i64 x.f0, .int .i64 x.f1, .int .i64 x.f2.f0, .int .i64 x.f2.f1, .string x.f2.f2, .bool x.f2.f3, .string x.f3, .int .i64 x.f4, .string x.f5, v9]
/-- A row of copies: what its elements read as, whatever becomes of the row's own block. -/
def KidsR (lo : Nat) (w : World) (v : Value) (ys : List Ex) (xs : List Value) : Prop := ∀ w'', Agree lo w.heap.size v.ownBlock w w'' → Reps (kEx.K w'') 10 ys xs
theorem KidsR.step {lo : Nat} {w w' : World} {v v' : Value} {ys : List Ex} {xs : List Value} (h : KidsR lo w v ys xs) (hsz : w.heap.size ≤ w'.heap.size) (hk : ∀ b, b < w.heap.size → v.ownBlock ≠ some b → (∃ c, w.heap[b]? = some (.cells c 31 (0, 0))) → w'.heap[b]? = w.heap[b]?)
    (hv : ∀ b, v'.ownBlock = some b → v.ownBlock = some b ∨ w.heap.size ≤ b) : KidsR lo w' v' ys xs := by
  intro w'' hw
  refine h w'' (fun b h1 h2 h3 h4 => ?_)
  have e := hk b h2 h3 h4
  obtain ⟨c, hc⟩ := h4
  refine (hw b h1 (by omega) (fun hb => ?_) ⟨c, e.trans hc⟩).trans e
  rcases hv b hb with h5 | h5
  · exact h3 h5
  · omega
theorem KidsR.snoc {lo lo2 : Nat} {w w2 w' : World} {v v' : Value} {ys : List Ex} {xs : List Value} {y : Ex} {A : Option Addr} {c : Nat} (h : KidsR lo w v ys xs) (hlo : lo ≤ lo2) (hsz : lo2 ≤ w.heap.size) (h2s : w2.heap.size ≤ w'.heap.size) (hsz2 : w.heap.size ≤ w2.heap.size)
    (hk : ∀ b, b < w.heap.size → v.ownBlock ≠ some b → (∃ c, w.heap[b]? = some (.cells c 31 (0, 0))) → w'.heap[b]? = w.heap[b]?)
    (hk2 : ∀ b, w.heap.size ≤ b → b < w2.heap.size → w'.heap[b]? = w2.heap[b]?)
    (hv : ∀ b, v'.ownBlock = some b → v.ownBlock = some b ∨ w2.heap.size ≤ b) (hvl : ∀ b, v.ownBlock = some b → b < w.heap.size) (hR : RdR w.heap.size w2.heap.size w2 A y.f6.length y.f6) (hc : y.f6.length ≤ c) :
    KidsR lo w' v' (ys ++ [y]) (xs ++ exCellsT y (.slice A y.f6.length c)) := by
  intro w'' hw
  have h1 := (h.step (by omega) hk (v' := v') (fun b hb => (hv b hb).imp id (fun h => by omega))) w'' hw
  refine Reps.snoc h1 ?_ rfl
  exact kEx_mk w'' y hc (hR w'' (fun b h3 h4 _ h5 => by
    have e := hk2 b h3 h4
    obtain ⟨c', hc'⟩ := h5
    refine (hw b (by omega) (by omega) (fun hb => ?_) ⟨c', e.trans hc'⟩).trans e
    rcases hv b hb with h6 | h6
    · have := hvl b h6; omega
    · omega))
end Go.Proofs.Ytgnifglolbfamaa
