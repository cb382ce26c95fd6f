/- Texts of the claim, merged in build order: QK, QL, QM, QN. -/
import Derived.Test.YtgnifglolbfamaaZAO
import Derived.Laws.OwnMore
import Derived.Laws.BytesArg
/- (*Rooms).expr and each: all lists of a tree are grown. -/
set_option linter.unusedVariables false
set_option linter.unusedSimpArgs false
namespace Go.Proofs.Ytgnifglolbfamaa
open Go.RowKit Go.Proofs.YtgnifglolbfamaaW.PrintWords

def gs (es : List RE) : List Nat := es.filterMap (·.g)
theorem gs_append (a b : List RE) : gs (a ++ b) = gs a ++ gs b := List.filterMap_append
mutual
/-- The lists of a tree, in the order in which they are grown. -/
def growT : TX → List RE
  | .mk _ _ _ _ _ _ g cap k => growTs k ++ [⟨g, k.length, cap⟩]
def growTs : List TX → List RE
  | [] => []
  | x :: l => growT x ++ growTs l
end
theorem growTs_eq : ∀ l : List TX, growTs l = l.flatMap growT
  | [] => by rw [growTs]; rfl
  | x :: l => by rw [growTs, growTs_eq l]; rfl
def reH (x : HX) : RE := ⟨x.1, x.2.2.length, x.2.1⟩
def growH (x : HX) : List RE := x.2.2.flatMap growT ++ [reH x]
theorem growT_eq (t : TX) : growT t = growH t.h := by
  cases t with
  | mk a b c d e f g cap k => rw [growT, growTs_eq]; rfl
mutual
theorem gs_growT : ∀ t : TX, (gs (growT t)).Perm (blT t)
  | .mk a b c d e f g cap k => by
    rw [growT, blT, gs_append]
    refine List.perm_append_comm.trans ?_
    have : gs [⟨g, k.length, cap⟩] = g.toList := by cases g <;> rfl
    rw [this]
    exact List.Perm.append_left _ (gs_growTs k)
theorem gs_growTs : ∀ l : List TX, (gs (growTs l)).Perm (blTs l)
  | [] => by rw [growTs, blTs]; exact List.Perm.refl _
  | x :: l => by
    rw [growTs, blTs, gs_append]
    exact (gs_growT x).append (gs_growTs l)
end
theorem gs_growH (x : HX) : (gs (growH x)).Perm (keys (entH x)) := by
  unfold growH
  rw [gs_append, keys_entH, ← growTs_eq, ← blTs_eq]
  refine List.perm_append_comm.trans ?_
  have : gs [reH x] = x.1.toList := by unfold reH; cases x.1 <;> rfl
  rw [this]
  exact List.Perm.append_left _ (gs_growTs _)
theorem gs_mem {es : List RE} {r : RE} {b : Nat} (h : r ∈ es) (hb : r.g = some b) : b ∈ gs es := List.mem_filterMap.2 ⟨r, h, hb⟩
theorem gs_last {es : List RE} {r : RE} (h : (gs (es ++ [r])).Nodup) : ∀ r' ∈ es, ∀ b, r'.g = some b → r.g ≠ some b := by
  intro r' hr' b hb hrb
  rw [gs_append, List.nodup_append] at h
  exact h.2.2 b (gs_mem hr' hb) b (gs_mem (List.mem_singleton.2 rfl) hrb) rfl
theorem gs_head {a b : List RE} (h : (gs (a ++ b)).Nodup) : (gs a).Nodup := by
  rw [gs_append, List.nodup_append] at h
  exact h.1

/-- An element of a list, as the walk reads it. -/
theorem kid_at {w : World} {x : HX} (hw : WfH x) (ha : AllOwn w (entX x.1 x.2.1 x.2.2)) (k : Nat) (hk : k < x.2.2.length) : ∃ ad, x.1.map (fun g => (⟨g, 0, none⟩ : Addr)) = some ad ∧
    w.cell? (ad.add (k * 10)) = some (.int .i64 x.2.2[k].f0) ∧ w.cell? ⟨(ad.add (k * 10)).block, (ad.add (k * 10)).off + 1, none⟩ = some (.int .i64 x.2.2[k].f1) ∧
    w.cell? ⟨(ad.add (k * 10)).block, (ad.add (k * 10)).off + 2, none⟩ = some (.int .i64 x.2.2[k].f2.f0) ∧ w.cell? ⟨(ad.add (k * 10)).block, (ad.add (k * 10)).off + 3, none⟩ = some (.int .i64 x.2.2[k].f2.f1) ∧
    w.cell? ⟨(ad.add (k * 10)).block, (ad.add (k * 10)).off + 4, none⟩ = some (.string x.2.2[k].f2.f2) ∧ w.cell? ⟨(ad.add (k * 10)).block, (ad.add (k * 10)).off + 5, none⟩ = some (.bool x.2.2[k].f2.f3) ∧
    w.cell? ⟨(ad.add (k * 10)).block, (ad.add (k * 10)).off + 6, none⟩ = some (.string x.2.2[k].f3) ∧ w.cell? ⟨(ad.add (k * 10)).block, (ad.add (k * 10)).off + 7, none⟩ = some (.int .i64 x.2.2[k].f4) ∧
    w.cell? ⟨(ad.add (k * 10)).block, (ad.add (k * 10)).off + 8, none⟩ = some (.string x.2.2[k].f5) ∧ w.cell? ⟨(ad.add (k * 10)).block, (ad.add (k * 10)).off + 9, none⟩ = some x.2.2[k].v := by
  obtain ⟨g, cap, ts⟩ := x
  cases g with
  | none =>
    have := (hw.1 rfl).2
    simp only at this hk
    subst this
    exact absurd hk (by simp)
  | some g =>
    have ho : Own w ⟨g, 31, 10, ts.length, cap, ts.flatMap cellsT⟩ := ha _ (List.mem_singleton.2 rfl)
    have hc := atT ho k hk
    refine ⟨⟨g, 0, none⟩, rfl, ?_⟩
    rw [add_plain]
    exact ⟨hc 0 (by decide), hc 1 (by decide), hc 2 (by decide), hc 3 (by decide), hc 4 (by decide), hc 5 (by decide), hc 6 (by decide), hc 7 (by decide), hc 8 (by decide), hc 9 (by decide)⟩

def NodeV (t : TX) (A : Option Addr) : Value := .agg #[.int .i64 t.f0, .int .i64 t.f1, .int .i64 t.f2.f0, .int .i64 t.f2.f1, .string t.f2.f2, .bool t.f2.f3, .string t.f3, .int .i64 t.f4, .string t.f5, .slice A t.kids.length t.cap]
def ExprPost (L : List Ent) (G : Nat) (es : List RE) (Pr : Nat → Prop) (ad : List RE) (w : World) (e : Ending) (w' : World) : Prop :=
  e = .returned (.tuple #[]) ∧ RoomsOk w' G (es ++ ad) Pr ∧ Only (fun b => ¬ Pr b ∨ b ∈ keys L) w w' ∧ AllOwn w' L

/-- What is known of all blocks is known when one of the lists was grown. -/
theorem grown_L {L : List Ent} (hN : (keys L).Nodup) {Pr : Nat → Prop} {x : HX} {w w' : World} (hw : WfH x) (hx : ∀ E ∈ entX x.1 x.2.1 x.2.2, E ∈ L) (hL : AllOwn w L) (hP : ∀ b ∈ keys L, Pr b)
    (ho : Only (fun b => ¬ Pr b ∨ (reH x).g = some b) w w') (h2 : w'.ownsRow 0 31 10 (.slice (reH x).A x.2.2.length x.2.1) x.2.2.length (x.2.2.flatMap cellsT)) : AllOwn w' L := by
  intro E hE
  by_cases h : x.1 = some E.b
  · have h1 : (⟨E.b, 31, 10, x.2.2.length, x.2.1, x.2.2.flatMap cellsT⟩ : Ent) ∈ entX x.1 x.2.1 x.2.2 := by rw [h]; exact List.mem_singleton.2 rfl
    have h3 := key_inj hN hE (hx _ h1) rfl
    have hA : (reH x).A = some ⟨E.b, 0, none⟩ := by unfold RE.A reH; rw [h]; rfl
    rw [hA] at h2
    rw [h3]
    exact h2
  · exact (hL E hE).only ho (fun hb => by
      rcases hb with hb | hb
      · exact hb (hP _ (List.mem_map.2 ⟨E, hE, rfl⟩))
      · exact h hb)

theorem exNL_mem : ∀ (l : List TX) (k : TX), k ∈ l → exN (exT k) ≤ exNL (l.map exT)
  | x :: l, k, h => by
    rw [List.map_cons, exNL]
    rcases List.mem_cons.1 h with rfl | h
    · omega
    · have := exNL_mem l k h; omega
theorem gs_sub {x : HX} {L : List Ent} (h : ∀ E ∈ entH x, E ∈ L) : ∀ b ∈ gs (growH x), b ∈ keys L := fun b hb => by
  obtain ⟨E, hE, rfl⟩ := List.mem_map.1 ((gs_growH x).mem_iff.1 hb)
  exact List.mem_map.2 ⟨E, h E hE, rfl⟩
theorem take_flat {l : List TX} {k : Nat} (hk : k < l.length) : (l.take (k + 1)).flatMap growT = (l.take k).flatMap growT ++ growT l[k] := by
  rw [List.take_succ_eq_append_getElem hk, List.flatMap_append]; simp
theorem all_flat {l : List TX} {k : Nat} (hk : k < l.length) : ∃ rest, l.flatMap growT = ((l.take k).flatMap growT ++ growT l[k]) ++ rest := by
  refine ⟨(l.drop (k + 1)).flatMap growT, ?_⟩
  rw [← take_flat hk, ← List.flatMap_append, List.take_append_drop]

set_option maxHeartbeats 4000000 in
set_option maxRecDepth 100000 in
theorem expr_any (L : List Ent) (hN : (keys L).Nodup) : ∀ (m : Nat) (t : TX), exN (exT t) ≤ m → exN (exT t) ≤ 100000000000 → WfT t → (∀ E ∈ entT t, E ∈ L) → ∀ (G : Nat) (es : List RE) (Pr : Nat → Prop) (A : Option Addr) (w : World), A = t.g.map (fun g => ⟨g, 0, none⟩) → RoomsOk w G es Pr → AllOwn w L →
    (∀ b, Pr b → b < w.heap.size) → (∀ b ∈ keys L, Pr b) → (gs (es ++ growT t)).Nodup → (es ++ growT t).length ≤ 1000000000 →
    Calls Try.prog 62 #[.pointer (some ⟨G, 0, none⟩), NodeV t A] w (ExprPost L G es Pr (growT t) w) := by
  intro m
  induction m with
  | zero => intro t h; rw [exN_eq] at h; omega
  | succ m ih =>
    intro t hm hN2 hW hL G es Pr A w hA hR hO hP hK hnd hlen
    rw [growT_eq] at hnd hlen ⊢
    have hWH := hW.hd
    have hXL : ∀ E ∈ entX t.g t.cap t.kids, E ∈ L := fun E hE => hL E (by rw [entT_eq]; exact List.mem_append_left _ hE)
    have hHL : ∀ E ∈ entH t.h, E ∈ L := fun E hE => hL E (by rw [entT_eq]; exact hE)
    have hkid : ∀ k ∈ t.kids, WfT k ∧ ∀ E ∈ entT k, E ∈ L := fun k hk => ⟨hWH.2 k hk, fun E hE => hL E (by rw [entT_eq]; exact List.mem_append_right _ (List.mem_flatMap.2 ⟨k, hk, hE⟩))⟩
    rw [exN_eq, exT_eq] at hm hN2
    change exNL (t.kids.map exT) + 1 ≤ _ at hm
    change exNL (t.kids.map exT) + 1 ≤ _ at hN2
    have hkN : ∀ k ∈ t.kids, exN (exT k) ≤ m ∧ exN (exT k) ≤ 100000000000 := fun k hk => by
      have := exNL_mem t.kids k hk
      constructor
      · exact Nat.le_trans this (by omega)
      · exact Nat.le_trans this (by omega)
    have hkl : t.kids.length ≤ 100000000000 := by
      have := exNL_len (t.kids.map exT)
      rw [List.length_map] at this
      exact Nat.le_trans this (by omega)
    have hcap : t.kids.length ≤ t.cap := cap_H hWH (hO.sub hXL)
    have hcm : t.cap ≤ 9223372036854775807 := by
      obtain ⟨_, _, he, _, h2, _⟩ := own_shape (own_H hWH (hO.sub hXL))
      injection he with _ _ e3
      have : t.cap = _ := e3
      omega
    obtain ⟨B, hB⟩ : ∃ B, B = w.heap.size := ⟨_, rfl⟩
    have hR1 := (hR.keep (Pr' := fun b => Pr b ∨ b = B) (fun b hb hn h => h.elim hn (fun e => by omega)) (fun r hr b hb => Or.inl (hR.pm r hr b hb))).below (below_new w (.cells #[.int .i64 t.f0, .int .i64 t.f1, .int .i64 t.f2.f0, .int .i64 t.f2.f1, .string t.f2.f2, .bool t.f2.f3, .string t.f3, .int .i64 t.f4, .string t.f5, .slice A t.kids.length t.cap] 31))
    have HBX := Lib.hid (blk_new w (.cells #[.int .i64 t.f0, .int .i64 t.f1, .int .i64 t.f2.f0, .int .i64 t.f2.f1, .string t.f2.f2, .bool t.f2.f3, .string t.f3, .int .i64 t.f4, .string t.f5, .slice A t.kids.length t.cap] 31))
    have hO1 := hO.only (Only.of_below (S := fun _ => False) (below_new w (.cells #[.int .i64 t.f0, .int .i64 t.f1, .int .i64 t.f2.f0, .int .i64 t.f2.f1, .string t.f2.f2, .bool t.f2.f3, .string t.f3, .int .i64 t.f4, .string t.f5, .slice A t.kids.length t.cap] 31))) (fun _ _ h => h)
    have hS1 := (below_new w (.cells #[.int .i64 t.f0, .int .i64 t.f1, .int .i64 t.f2.f0, .int .i64 t.f2.f1, .string t.f2.f2, .bool t.f2.f3, .string t.f3, .int .i64 t.f4, .string t.f5, .slice A t.kids.length t.cap] 31))
    have hBl : B < (w.alloc (.cells #[.int .i64 t.f0, .int .i64 t.f1, .int .i64 t.f2.f0, .int .i64 t.f2.f1, .string t.f2.f2, .bool t.f2.f3, .string t.f3, .int .i64 t.f4, .string t.f5, .slice A t.kids.length t.cap] 31)).heap.size := by rw [alloc_size', hB]; omega
    rw [← hB] at HBX
    have HB := Lib.hid hB
    have HR := Lib.hid hR
    have HR1 := Lib.hid hR1
    have HO := Lib.hid hO
    have HO1 := Lib.hid hO1
    have HS1 := Lib.hid hS1
    have HP := Lib.hid hP
    have HK := Lib.hid hK
    have HND := Lib.hid hnd
    have HLEN := Lib.hid hlen
    have HA := Lib.hid hA
    have HW := Lib.hid hWH
    have HXL := Lib.hid hXL
    have HHL := Lib.hid hHL
    have HKID := Lib.hid hkid
    have HKN := Lib.hid hkN
    have HBL := Lib.hid hBl
    clear hB hR hR1 hO hO1 hS1 hP hK hnd hlen hA hWH hXL hHL hkid hkN hW hL hm hN2 hBl
    unfold NodeV
    go_enter Try.func62, Try.ntmps62
    go_wp2_with fail
    rw [← HB.out]
    generalize w.alloc (.cells #[.int .i64 t.f0, .int .i64 t.f1, .int .i64 t.f2.f0, .int .i64 t.f2.f1, .string t.f2.f2, .bool t.f2.f3, .string t.f3, .int .i64 t.f4, .string t.f5, .slice A t.kids.length t.cap] 31) = w1 at *
    obtain ⟨n, hn⟩ : ∃ n, n = t.kids.length := ⟨_, rfl⟩
    rw [← hn] at HBX hkl hcap ⊢
    have HN := Lib.hid hn
    clear hn
    go_loopw [4] (fun t4 wr => ∃ k : Nat, k ≤ n ∧ t4 = .int .i64 k ∧ Hid (RoomsOk wr G (es ++ (t.kids.take k).flatMap growT) (fun b => Pr b ∨ b = B)) ∧ Hid (AllOwn wr L) ∧ Hid (Only (fun b => ¬ (Pr b ∨ b = B) ∨ b ∈ keys L) w1 wr)) (fun t4 _ => n - (intOf t4).toNat)
    case atStart => exact ⟨0, by omega, rfl, Lib.hid (by rw [List.take_zero, List.flatMap_nil, List.append_nil]; exact HR1.out), HO1, Lib.hid (Only.refl _ _)⟩
    case round =>
      obtain ⟨k, hk, rfl, hRk, hOk, hOn⟩ := hrel
      generalize wr = w2 at *
      have hsz := hOn.out.size
      have hBL : B ∉ keys L := fun h => by have := HO.out.lt B h; have := HB.out; omega
      have hBX2 := hOn.out.blk HBX.out (fun h => h.elim (fun h => h (Or.inr rfl)) hBL)
      have HBX2 := Lib.hid hBX2
      have y9 := (blk_cell hBX2 9).trans rfl
      clear hBX2 hBL
      by_cases hlt : k < n
      · have hlt' : k < t.kids.length := by have := HN.out; omega
        obtain ⟨ad, had, e0, e1, e2, e3, e4, e5, e6, e7, e8, e9⟩ := kid_at HW.out (hOk.out.sub HXL.out) k hlt'
        have hAa : A = some ad := HA.out.trans had
        subst hAa
        have hym : t.kids[k] ∈ t.kids := List.getElem_mem hlt'
        have HTF := Lib.hid (take_flat hlt')
        have HAF := Lib.hid (all_flat hlt')
        have HKK := Lib.hid (HKID.out _ hym)
        have HKM := Lib.hid (HKN.out _ hym)
        change w2.cell? (ad.add (k * 10)) = some (.int .i64 t.kids[k].f0) at e0
        change w2.cell? ⟨(ad.add (k * 10)).block, (ad.add (k * 10)).off + 1, none⟩ = some (.int .i64 t.kids[k].f1) at e1
        change w2.cell? ⟨(ad.add (k * 10)).block, (ad.add (k * 10)).off + 2, none⟩ = some (.int .i64 t.kids[k].f2.f0) at e2
        change w2.cell? ⟨(ad.add (k * 10)).block, (ad.add (k * 10)).off + 3, none⟩ = some (.int .i64 t.kids[k].f2.f1) at e3
        change w2.cell? ⟨(ad.add (k * 10)).block, (ad.add (k * 10)).off + 4, none⟩ = some (.string t.kids[k].f2.f2) at e4
        change w2.cell? ⟨(ad.add (k * 10)).block, (ad.add (k * 10)).off + 5, none⟩ = some (.bool t.kids[k].f2.f3) at e5
        change w2.cell? ⟨(ad.add (k * 10)).block, (ad.add (k * 10)).off + 6, none⟩ = some (.string t.kids[k].f3) at e6
        change w2.cell? ⟨(ad.add (k * 10)).block, (ad.add (k * 10)).off + 7, none⟩ = some (.int .i64 t.kids[k].f4) at e7
        change w2.cell? ⟨(ad.add (k * 10)).block, (ad.add (k * 10)).off + 8, none⟩ = some (.string t.kids[k].f5) at e8
        change w2.cell? ⟨(ad.add (k * 10)).block, (ad.add (k * 10)).off + 9, none⟩ = some t.kids[k].v at e9
        generalize t.kids[k] = y at *
        obtain ⟨B9, hB9⟩ : ∃ B9, B9 = y.g.map (fun g => (⟨g, 0, none⟩ : Addr)) := ⟨_, rfl⟩
        rw [show y.v = .slice B9 y.kids.length y.cap from by rw [hB9]; rfl] at e9
        have HB9 := Lib.hid hB9
        clear hB9 hlt' had hym
        have i1 : (0 : Int) ≤ (k : Int) := by omega
        have i2 : (k : Int) < (n : Int) := by omega
        go_wp2_with fail
        have HC := ih y HKM.out.1 HKM.out.2 HKK.out.1 HKK.out.2 G (es ++ (t.kids.take k).flatMap growT) (fun b => Pr b ∨ b = B) B9 w2 HB9.out hRk.out hOk.out (fun b hb => by
            rcases hb with hb | hb
            · have := HP.out b hb; have := HS1.out.size; omega
            · have := HBL.out; omega) (fun b hb => Or.inl (HK.out b hb)) (by
            obtain ⟨rest, hr⟩ := HAF.out
            have h := HND.out
            unfold growH at h
            rw [show t.h.2.2.flatMap growT = _ from hr] at h
            refine gs_head (b := rest ++ [reH t.h]) ?_
            simpa [List.append_assoc] using h) (by
            obtain ⟨rest, hr⟩ := HAF.out
            have h := HLEN.out
            unfold growH at h
            rw [show t.h.2.2.flatMap growT = _ from hr] at h
            simp only [List.length_append] at h ⊢
            omega)
        unfold NodeV at HC
        refine HC.mono ?_
        rintro e W3 ⟨rfl, hR3, hOn3, hO3⟩
        have HR3 := Lib.hid hR3
        have HOn3 := Lib.hid hOn3
        have HO3 := Lib.hid hO3
        clear hR3 hOn3 hO3 HC
        go_wp2_with fail
        go_roundw
        case rel => exact ⟨k + 1, by omega, by go_num, Lib.hid (by rw [HTF.out, ← List.append_assoc]; exact HR3.out), HO3, Lib.hid (hOn.out.same HOn3.out)⟩
        case measure => simp [intOf]; omega
      · obtain rfl : k = n := by omega
        have htk : t.kids.take k = t.kids := List.take_of_length_le (by have := HN.out; omega)
        have hRk' : RoomsOk w2 G (es ++ t.kids.flatMap growT) (fun b => Pr b ∨ b = B) := by have := hRk.out; rw [htk] at this; exact this
        have HC : Calls Try.prog 63 #[.pointer (some ⟨G, 0, none⟩), .slice A k t.cap] w2 (GrowPost G (es ++ t.kids.flatMap growT) (fun b => Pr b ∨ b = B) (reH t.h) (t.kids.flatMap cellsT) w2) := by
          rw [HA.out, HN.out]
          refine grow_any G _ _ (reH t.h) (t.kids.flatMap cellsT) w2 hRk' (own_H HW.out (hOk.out.sub HXL.out)) (fun b hb => ?_) (fun b hb => Or.inl (HK.out b ?_)) (gs_last ?_) ?_ ?_
          · rcases hb with hb | hb
            · have := HP.out b hb; have := HS1.out.size; omega
            · have := HBL.out; omega
          · exact List.mem_map.2 ⟨⟨b, 31, 10, t.kids.length, t.cap, t.kids.flatMap cellsT⟩, HXL.out _ (by rw [show t.g = some b from hb]; exact List.mem_singleton.2 rfl), rfl⟩
          · have h := HND.out
            unfold growH at h
            rw [← List.append_assoc] at h
            exact h
          · have h := HLEN.out
            unfold growH at h
            simp only [List.length_append] at h ⊢
            show es.length + (t.kids.flatMap growT).length ≤ _
            have : (t.h.2.2.flatMap growT).length = (t.kids.flatMap growT).length := rfl
            omega
          · show t.kids.length ≤ _
            have := HN.out; omega
        have HC := Lib.hid HC
        clear hRk'
        go_wp2_with fail
        refine HC.out.mono ?_
        rintro e W3 ⟨rfl, hR3, hOn3, hX3⟩
        have HR3 := Lib.hid hR3
        have HOn3 := Lib.hid hOn3
        have HX3 := Lib.hid hX3
        clear hR3 hOn3 hX3 HC htk
        go_wp2_with fail
        go_end0
        have hL3 := grown_L hN HW.out HXL.out hOk.out (fun b hb => Or.inl (HK.out b hb)) HOn3.out HX3.out
        refine ⟨rfl, ?_, ?_, hL3⟩
        · have h := HR3.out
          rw [List.append_assoc] at h
          refine h.keep (fun b hb hn hp => hn (Or.inl hp)) (fun r' hr' b hb => ?_)
          rcases List.mem_append.1 hr' with h1 | h1
          · exact HR.out.pm r' h1 b hb
          · exact HK.out b (gs_sub HHL.out b (gs_mem h1 hb))
        · refine Only.trans (Only.of_below (S := fun b => ¬ Pr b ∨ b ∈ keys L) HS1.out) (Only.trans hOn.out HOn3.out (T := fun b => ¬ (Pr b ∨ b = B) ∨ (reH t.h).g = some b) (S := fun b => ¬ (Pr b ∨ b = B) ∨ b ∈ keys L) (fun b _ hb => ?_)) (fun b hb hT => ?_)
          · rcases hb with hb | hb
            · exact Or.inl hb
            · exact Or.inr (gs_sub HHL.out b (gs_mem (List.mem_append_right _ (List.mem_singleton.2 rfl)) hb))
          · rcases hT with hT | hT
            · exact Or.inl (fun h => hT (Or.inl h))
            · exact Or.inr hT
end Go.Proofs.Ytgnifglolbfamaa

/- (*Rooms).each: a list of expressions, and all lists of each. -/
set_option linter.unusedVariables false
set_option linter.unusedSimpArgs false
namespace Go.Proofs.Ytgnifglolbfamaa
open Go.RowKit Go.Proofs.YtgnifglolbfamaaW.PrintWords

set_option maxHeartbeats 4000000 in
set_option maxRecDepth 100000 in
theorem each_any (L : List Ent) (hN : (keys L).Nodup) (t : HX) (hN2 : exNL (t.2.2.map exT) ≤ 100000000000) (hWH : WfH t) (hHL : ∀ E ∈ entH t, E ∈ L) (G : Nat) (es : List RE) (Pr : Nat → Prop) (A : Option Addr) (w : World) (hA : A = t.1.map (fun g => ⟨g, 0, none⟩)) (hR : RoomsOk w G es Pr) (hO : AllOwn w L)
    (hP : ∀ b, Pr b → b < w.heap.size) (hK : ∀ b ∈ keys L, Pr b) (hnd : (gs (es ++ growH t)).Nodup) (hlen : (es ++ growH t).length ≤ 1000000000) :
    Calls Try.prog 46 #[.pointer (some ⟨G, 0, none⟩), .slice A t.2.2.length t.2.1] w (ExprPost L G es Pr (growH t) w) := by
  have hXL : ∀ E ∈ entX t.1 t.2.1 t.2.2, E ∈ L := fun E hE => hHL E (List.mem_append_left _ hE)
  have hkid : ∀ k ∈ t.2.2, WfT k ∧ ∀ E ∈ entT k, E ∈ L := fun k hk => ⟨hWH.2 k hk, fun E hE => hHL E (List.mem_append_right _ (List.mem_flatMap.2 ⟨k, hk, hE⟩))⟩
  have hkN : ∀ k ∈ t.2.2, exN (exT k) ≤ 100000000000 := fun k hk => Nat.le_trans (exNL_mem t.2.2 k hk) hN2
  have hkl : t.2.2.length ≤ 100000000000 := by
    have := exNL_len (t.2.2.map exT)
    rw [List.length_map] at this
    exact Nat.le_trans this (by omega)
  have hcap : t.2.2.length ≤ t.2.1 := cap_H hWH (hO.sub hXL)
  have hcm : t.2.1 ≤ 9223372036854775807 := by
    obtain ⟨_, _, he, _, h2, _⟩ := own_shape (own_H hWH (hO.sub hXL))
    injection he with _ _ e3
    have : t.2.1 = _ := e3
    omega
  have HR := Lib.hid hR
  have HO := Lib.hid hO
  have HP := Lib.hid hP
  have HK := Lib.hid hK
  have HND := Lib.hid hnd
  have HLEN := Lib.hid hlen
  have HA := Lib.hid hA
  have HW := Lib.hid hWH
  have HXL := Lib.hid hXL
  have HHL := Lib.hid hHL
  have HKID := Lib.hid hkid
  have HKN := Lib.hid hkN
  clear hR hO hP hK hnd hlen hA hWH hXL hHL hkid hkN hN2
  go_enter Try.func46, Try.ntmps46
  go_wp2_with fail
  obtain ⟨n, hn⟩ : ∃ n, n = t.2.2.length := ⟨_, rfl⟩
  rw [← hn] at hkl hcap ⊢
  have HN := Lib.hid hn
  clear hn
  go_loopw [4] (fun t4 wr => ∃ k : Nat, k ≤ n ∧ t4 = .int .i64 k ∧ Hid (RoomsOk wr G (es ++ (t.2.2.take k).flatMap growT) Pr) ∧ Hid (AllOwn wr L) ∧ Hid (Only (fun b => ¬ Pr b ∨ b ∈ keys L) w wr)) (fun t4 _ => n - (intOf t4).toNat)
  case atStart => exact ⟨0, by omega, rfl, Lib.hid (by rw [List.take_zero, List.flatMap_nil, List.append_nil]; exact HR.out), HO, Lib.hid (Only.refl _ _)⟩
  case round =>
    obtain ⟨k, hk, rfl, hRk, hOk, hOn⟩ := hrel
    generalize wr = w2 at *
    have hsz := hOn.out.size
    by_cases hlt : k < n
    · have hlt' : k < t.2.2.length := by have := HN.out; omega
      obtain ⟨ad, had, e0, e1, e2, e3, e4, e5, e6, e7, e8, e9⟩ := kid_at HW.out (hOk.out.sub HXL.out) k hlt'
      have hAa : A = some ad := HA.out.trans had
      subst hAa
      have hym : t.2.2[k] ∈ t.2.2 := List.getElem_mem hlt'
      have HTF := Lib.hid (take_flat hlt')
      have HAF := Lib.hid (all_flat hlt')
      have HKK := Lib.hid (HKID.out _ hym)
      have HKM := Lib.hid (HKN.out _ hym)
      change w2.cell? (ad.add (k * 10)) = some (.int .i64 t.2.2[k].f0) at e0
      change w2.cell? ⟨(ad.add (k * 10)).block, (ad.add (k * 10)).off + 1, none⟩ = some (.int .i64 t.2.2[k].f1) at e1
      change w2.cell? ⟨(ad.add (k * 10)).block, (ad.add (k * 10)).off + 2, none⟩ = some (.int .i64 t.2.2[k].f2.f0) at e2
      change w2.cell? ⟨(ad.add (k * 10)).block, (ad.add (k * 10)).off + 3, none⟩ = some (.int .i64 t.2.2[k].f2.f1) at e3
      change w2.cell? ⟨(ad.add (k * 10)).block, (ad.add (k * 10)).off + 4, none⟩ = some (.string t.2.2[k].f2.f2) at e4
      change w2.cell? ⟨(ad.add (k * 10)).block, (ad.add (k * 10)).off + 5, none⟩ = some (.bool t.2.2[k].f2.f3) at e5
      change w2.cell? ⟨(ad.add (k * 10)).block, (ad.add (k * 10)).off + 6, none⟩ = some (.string t.2.2[k].f3) at e6
      change w2.cell? ⟨(ad.add (k * 10)).block, (ad.add (k * 10)).off + 7, none⟩ = some (.int .i64 t.2.2[k].f4) at e7
      change w2.cell? ⟨(ad.add (k * 10)).block, (ad.add (k * 10)).off + 8, none⟩ = some (.string t.2.2[k].f5) at e8
      change w2.cell? ⟨(ad.add (k * 10)).block, (ad.add (k * 10)).off + 9, none⟩ = some t.2.2[k].v at e9
      generalize t.2.2[k] = y at *
      obtain ⟨B9, hB9⟩ : ∃ B9, B9 = y.g.map (fun g => (⟨g, 0, none⟩ : Addr)) := ⟨_, rfl⟩
      rw [show y.v = .slice B9 y.kids.length y.cap from by rw [hB9]; rfl] at e9
      have HB9 := Lib.hid hB9
      clear hB9 hlt' had hym
      have i1 : (0 : Int) ≤ (k : Int) := by omega
      have i2 : (k : Int) < (n : Int) := by omega
      go_wp2_with fail
      have HC := expr_any L hN _ y (Nat.le_refl _) HKM.out HKK.out.1 HKK.out.2 G (es ++ (t.2.2.take k).flatMap growT) Pr B9 w2 HB9.out hRk.out hOk.out (fun b hb => by have := HP.out b hb; omega) (fun b hb => HK.out b hb) (by
          obtain ⟨rest, hr⟩ := HAF.out
          have h := HND.out
          unfold growH at h
          rw [show t.2.2.flatMap growT = _ from hr] at h
          refine gs_head (b := rest ++ [reH t]) ?_
          simpa [List.append_assoc] using h) (by
          obtain ⟨rest, hr⟩ := HAF.out
          have h := HLEN.out
          unfold growH at h
          rw [show t.2.2.flatMap growT = _ from hr] at h
          simp only [List.length_append] at h ⊢
          omega)
      unfold NodeV at HC
      refine HC.mono ?_
      rintro e W3 ⟨rfl, hR3, hOn3, hO3⟩
      have HR3 := Lib.hid hR3
      have HOn3 := Lib.hid hOn3
      have HO3 := Lib.hid hO3
      clear hR3 hOn3 hO3 HC
      go_wp2_with fail
      go_roundw
      case rel => exact ⟨k + 1, by omega, by go_num, Lib.hid (by rw [HTF.out, ← List.append_assoc]; exact HR3.out), HO3, Lib.hid (hOn.out.same HOn3.out)⟩
      case measure => simp [intOf]; omega
    · obtain rfl : k = n := by omega
      have htk : t.2.2.take k = t.2.2 := List.take_of_length_le (by have := HN.out; omega)
      have hRk' : RoomsOk w2 G (es ++ t.2.2.flatMap growT) Pr := by have := hRk.out; rw [htk] at this; exact this
      have HC : Calls Try.prog 63 #[.pointer (some ⟨G, 0, none⟩), .slice A k t.2.1] w2 (GrowPost G (es ++ t.2.2.flatMap growT) Pr (reH t) (t.2.2.flatMap cellsT) w2) := by
        rw [HA.out, HN.out]
        refine grow_any G _ _ (reH t) (t.2.2.flatMap cellsT) w2 hRk' (own_H HW.out (hOk.out.sub HXL.out)) (fun b hb => ?_) (fun b hb => HK.out b ?_) (gs_last ?_) ?_ ?_
        · have := HP.out b hb; omega
        · exact List.mem_map.2 ⟨⟨b, 31, 10, t.2.2.length, t.2.1, t.2.2.flatMap cellsT⟩, HXL.out _ (by rw [show t.1 = some b from hb]; exact List.mem_singleton.2 rfl), rfl⟩
        · have h := HND.out
          unfold growH at h
          rw [← List.append_assoc] at h
          exact h
        · have h := HLEN.out
          unfold growH at h
          simp only [List.length_append] at h ⊢
          show es.length + (t.2.2.flatMap growT).length ≤ _
          have : (t.2.2.flatMap growT).length = (t.2.2.flatMap growT).length := rfl
          omega
        · show t.2.2.length ≤ _
          have := HN.out; omega
      have HC := Lib.hid HC
      clear hRk'
      go_wp2_with fail
      refine HC.out.mono ?_
      rintro e W3 ⟨rfl, hR3, hOn3, hX3⟩
      have HR3 := Lib.hid hR3
      have HOn3 := Lib.hid hOn3
      have HX3 := Lib.hid hX3
      clear hR3 hOn3 hX3 HC htk
      go_wp2_with fail
      go_end0
      have hL3 := grown_L hN HW.out HXL.out hOk.out (fun b hb => HK.out b hb) HOn3.out HX3.out
      refine ⟨rfl, ?_, ?_, hL3⟩
      · have h := HR3.out
        rw [List.append_assoc] at h
        exact h
      · refine Only.trans hOn.out HOn3.out (T := fun b => ¬ Pr b ∨ (reH t).g = some b) (S := fun b => ¬ Pr b ∨ b ∈ keys L) (fun b _ hb => ?_)
        rcases hb with hb | hb
        · exact Or.inl hb
        · exact Or.inr (gs_sub HHL.out b (gs_mem (List.mem_append_right _ (List.mem_singleton.2 rfl)) hb))
end Go.Proofs.Ytgnifglolbfamaa

/- (*Rooms).whole: every list's room holds its mark alone. -/
set_option linter.unusedVariables false
set_option linter.unusedSimpArgs false
namespace Go.Proofs.Ytgnifglolbfamaa
open Go.RowKit Go.Proofs.YtgnifglolbfamaaW.PrintWords

theorem mark_cell {w : World} {e : TypeId} {sz : Nat} {l : List Value} {r : RE} (h : Marked w e sz l r) (hl : l.length = sz) (m c : Nat) (h1 : r.n ≤ m) (h2 : m < r.n + r.rm) (hc : c < sz) : ∃ g, r.A = some ⟨g, 0, none⟩ ∧ w.cell? ⟨g, m * sz + c, none⟩ = l[c]? := by
  obtain ⟨xs, hx, ho⟩ := h
  obtain ⟨_, _, he, _, _, hA, _⟩ := own_shape ho
  unfold RE.v at he ho
  injection he with e1 _ _
  obtain ⟨g, hg⟩ := hA (by omega)
  rw [← e1] at hg
  rw [hg] at ho
  refine ⟨g, hg, ?_⟩
  have hlt : m * sz + c < (r.n + r.rm) * sz := by
    have : m * sz + sz ≤ (r.n + r.rm) * sz := by rw [← Nat.succ_mul]; exact Nat.mul_le_mul_right _ h2
    omega
  rw [ho.cellAt _ hlt]
  have hge : xs.length ≤ m * sz + c := by rw [hx]; have := Nat.mul_le_mul_right sz h1; omega
  rw [List.getElem?_append_right hge]
  obtain ⟨j, rfl⟩ : ∃ j, m = r.n + j := ⟨m - r.n, by omega⟩
  have hidx : (r.n + j) * sz + c - xs.length = j * sz + c := by rw [hx, Nat.add_mul]; omega
  rw [hidx]
  have hj : j < (List.range r.rm).length := by rw [List.length_range]; omega
  have := flat_at (fun _ : Nat => l) sz (List.range r.rm) (fun _ _ => hl) j _ (List.getElem?_eq_getElem hj)
  have h3 := congrArg (fun z => z[c]?) this
  simp only [List.getElem?_take, if_pos hc, List.getElem?_drop] at h3
  exact h3
theorem mark_at {w : World} {i : Nat} {r : RE} (h : Marked w 31 10 (markX i) r) (m : Nat) (h1 : r.n ≤ m) (h2 : m < r.n + r.rm) : ∃ ad, r.A = some ad ∧
    w.cell? (ad.add (m * 10)) = some (.int .i64 97) ∧ w.cell? ⟨(ad.add (m * 10)).block, (ad.add (m * 10)).off + 1, none⟩ = some (.int .i64 i) ∧
    w.cell? ⟨(ad.add (m * 10)).block, (ad.add (m * 10)).off + 2, none⟩ = some (.int .i64 0) ∧ w.cell? ⟨(ad.add (m * 10)).block, (ad.add (m * 10)).off + 3, none⟩ = some (.int .i64 0) ∧
    w.cell? ⟨(ad.add (m * 10)).block, (ad.add (m * 10)).off + 4, none⟩ = some (.string ⟨#[]⟩) ∧ w.cell? ⟨(ad.add (m * 10)).block, (ad.add (m * 10)).off + 5, none⟩ = some (.bool false) ∧
    w.cell? ⟨(ad.add (m * 10)).block, (ad.add (m * 10)).off + 6, none⟩ = some (.string ⟨#[]⟩) ∧ w.cell? ⟨(ad.add (m * 10)).block, (ad.add (m * 10)).off + 7, none⟩ = some (.int .i64 0) ∧
    w.cell? ⟨(ad.add (m * 10)).block, (ad.add (m * 10)).off + 8, none⟩ = some (.string ⟨#[]⟩) ∧ w.cell? ⟨(ad.add (m * 10)).block, (ad.add (m * 10)).off + 9, none⟩ = some (.slice none 0 0) := by
  obtain ⟨g, hA, h0⟩ := mark_cell h rfl m 0 h1 h2 (by decide)
  have hc : ∀ c, c < 10 → w.cell? ⟨g, m * 10 + c, none⟩ = (markX i)[c]? := fun c hc => by
    obtain ⟨g', hA', h'⟩ := mark_cell h rfl m c h1 h2 hc
    rw [hA] at hA'
    injection hA' with hA'
    injection hA' with hA'
    subst hA'
    exact h'
  refine ⟨⟨g, 0, none⟩, hA, ?_⟩
  rw [add_plain]
  exact ⟨hc 0 (by decide), hc 1 (by decide), hc 2 (by decide), hc 3 (by decide), hc 4 (by decide), hc 5 (by decide), hc 6 (by decide), hc 7 (by decide), hc 8 (by decide), hc 9 (by decide)⟩

set_option maxHeartbeats 4000000 in
set_option maxRecDepth 100000 in
theorem whole_any (G : Nat) (es : List RE) (Pr : Nat → Prop) (w : World) (hR : RoomsOk w G es Pr) (hlen : es.length ≤ 1000000000) :
    Calls Try.prog 21 #[.pointer (some ⟨G, 0, none⟩)] w fun e w' => e = .returned (.bool true) ∧ Below w.heap.size w w' := by
  obtain ⟨vL, vF, hAt, -, -⟩ := hR.at_
  obtain ⟨AL, cL, rfl, hL1, hL2, hAL, -⟩ := own_shape hAt.hL
  obtain ⟨AF, cF, rfl, hF1, hF2, hAF, -⟩ := own_shape hAt.hF
  obtain ⟨ne, hne⟩ : ∃ ne, ne = es.length := ⟨_, rfl⟩
  have HAT := Lib.hid hAt
  have HR := Lib.hid hR
  have HAL := Lib.hid hAL
  have HAF := Lib.hid hAF
  clear hAt hR hAL hAF
  rw [← hne] at HAT HAL HAF hlen hL1 hF1
  have HNE := Lib.hid hne
  clear hne
  go_enter Try.func21, Try.ntmps21
  go_wp2_with fail
  go_loopw [3] (fun t3 wr => ∃ i : Nat, i ≤ ne ∧ t3 = .int .i64 i ∧ Below w.heap.size w wr) (fun t3 _ => ne - (intOf t3).toNat)
  case atStart => exact ⟨0, by omega, rfl, Below.refl _ _⟩
  case round =>
    obtain ⟨i, hi, rfl, hb⟩ := hrel
    generalize wr = w2 at *
    have hAt2 := HAT.out.only (S := fun _ => False) (Only.of_below hb) (fun h => h) (fun _ _ h => h) (fun _ _ h => h)
    have hsz := hb.size
    have c0 := (blk_cell hAt2.hG 0).trans rfl
    have c1 := (blk_cell hAt2.hG 1).trans rfl
    have HAT2 := Lib.hid hAt2
    clear hAt2
    by_cases hlt : i < ne
    · have i1 : (0 : Int) ≤ (i : Int) := by omega
      have i2 : (i : Int) < ne := by omega
      obtain ⟨gl, rfl⟩ := HAL.out (by omega)
      obtain ⟨gf, rfl⟩ := HAF.out (by omega)
      have hie : i < es.length := by have := HNE.out; omega
      have cp : w2.cell? ⟨gl, i, none⟩ = some (es[i].v) := by
        have hL := HAT2.out.hL
        rw [← HNE.out] at hL
        rw [hL.cellAt i (by omega), List.getElem?_map, List.getElem?_eq_getElem hie]; rfl
      have cq : w2.cell? ⟨gf, i, none⟩ = some (.int .i64 es[i].n) := by
        have hF := HAT2.out.hF
        rw [← HNE.out] at hF
        rw [hF.cellAt i (by omega), List.getElem?_map, List.getElem?_eq_getElem hie]; rfl
      have hmk := (HR.out.mkd i _ (List.getElem?_eq_getElem hie)).only (S := fun _ => False) (Only.of_below hb) (fun _ _ h => h)
      generalize es[i] = r at *
      have hsh : r.n + r.rm ≤ 9223372036854775807 := by
        obtain ⟨xs, _, ho⟩ := hmk
        obtain ⟨_, _, _, h1, h2, _⟩ := own_shape ho
        omega
      unfold RE.v at cp
      obtain ⟨q, hq⟩ : ∃ q, q = r.n + r.rm := ⟨_, rfl⟩
      rw [← hq] at cp hsh
      obtain ⟨p, hp⟩ : ∃ p, p = r.n := ⟨_, rfl⟩
      rw [← hp] at cq
      have hpq : p ≤ q := by omega
      have HMK := Lib.hid hmk
      have HQ := Lib.hid hq
      have HPP := Lib.hid hp
      have HBB := Lib.hid hb
      obtain ⟨A, hA⟩ : ∃ A, A = r.A := ⟨_, rfl⟩
      rw [← hA] at cp
      have HA := Lib.hid hA
      clear hmk hq hp hA hie hb
      generalize r.cap = cap at *
      go_wp2_with fail
      go_loopw [4] (fun t4 wr => ∃ j : Nat, p ≤ j ∧ j ≤ q ∧ t4 = .int .i64 j ∧ Below w2.heap.size w2 wr) (fun t4 _ => q - (intOf t4).toNat)
      case atStart => exact ⟨p, by omega, by omega, rfl, Below.refl _ _⟩
      case round =>
        obtain ⟨j, hpj, hj, rfl, hb3⟩ := hrel
        generalize wr = w3 at *
        have hsz3 := hb3.size
        have HG3 := Lib.hid (blk_below HAT2.out.hG hb3)
        have c0 := pw_cell_below hb3 c0
        have c1 := pw_cell_below hb3 c1
        have cp := pw_cell_below hb3 cp
        by_cases hjl : j < q
        · have i3 : (0 : Int) ≤ (j : Int) := by omega
          have i4 : (j : Int) < q := by omega
          obtain ⟨ad, had, e0, e1, e2, e3, e4, e5, e6, e7, e8, e9⟩ := mark_at (HMK.out.only (S := fun _ => False) (Only.of_below hb3) (fun _ _ h => h)) j (by have := HPP.out; omega) (by have := HQ.out; omega)
          have hAa : A = some ad := HA.out.trans had
          subst hAa
          have HB4 := Lib.hid (below_step hb3 (below_new w3 (.cells #[.int .i64 97, .int .i64 i, .int .i64 0, .int .i64 0, .string ⟨#[]⟩, .bool false, .string ⟨#[]⟩, .int .i64 0, .string ⟨#[]⟩, .slice none 0 0] 31)))
          clear had hb3
          go_wp2_with fail
          go_roundw
          case rel => exact ⟨j + 1, by omega, by omega, by go_num, HB4.out⟩
          case measure => simp [intOf]; omega
        · obtain rfl : j = q := by omega
          have HB4 := Lib.hid (below_step HBB.out hb3)
          clear hb3
          go_wp2_with fail
          go_roundw
          case rel => exact ⟨i + 1, by omega, by go_num, HB4.out⟩
          case measure => simp [intOf]; omega
    · obtain rfl : i = ne := by omega
      go_wp2_with fail
      go_ret
      exact ⟨rfl, hb⟩
end Go.Proofs.Ytgnifglolbfamaa

/- text: a mark that is a text. -/
set_option linter.unusedVariables false
set_option linter.unusedSimpArgs false
namespace Go.Proofs.Ytgnifglolbfamaa
open Go.RowKit Go.Proofs.YtgnifglolbfamaaW.PrintWords

def tx (n : Nat) (s : ByteArray) : ByteArray := if h : n = 0 then s else tx (n / 10) (s ++ ⟨#[UInt8.ofNat (48 + n % 10)]⟩)
termination_by n
theorem tx_zero (s : ByteArray) : tx 0 s = s := by rw [tx]; simp
theorem tx_pos (n : Nat) (s : ByteArray) (h : 0 < n) : tx n s = tx (n / 10) (s ++ ⟨#[UInt8.ofNat (48 + n % 10)]⟩) := by rw [tx, dif_neg (by omega)]
def textB (i : Nat) : ByteArray := tx (i + 1) ⟨#[109]⟩

theorem conv_byte (w : World) (d : Nat) (hd : d < 256) : (convert 82 9 (.slice (some ⟨w.heap.size, 0, none⟩) 1 1)).run Try.prog (w.alloc (.cells #[.int .u8 d] 5)) = .ok (.string ⟨#[UInt8.ofNat d]⟩) (w.alloc (.cells #[.int .u8 d] 5)) := by
  have h := run_convert_bytes_arg (P := Try.prog) (w.alloc (.cells #[.int .u8 d] 5)) 82 5 Try.underlying82 Try.underlying5 w.heap.size 0 1 1 [(d : Int)] (by simp) (fun i hi => by
    obtain rfl : i = 0 := by omega
    exact (blk_cell (blk_new w (.cells #[.int .u8 d] 5)) 0).trans rfl) 9 Try.underlying9
  rw [h]
  rfl

set_option maxHeartbeats 4000000 in
set_option maxRecDepth 100000 in
theorem text_any (i : Nat) (hi : i ≤ 1000000000000) (w : World) : Calls Try.prog 47 #[.int .i64 i] w fun e w' => e = .returned (.string (textB i)) ∧ Below w.heap.size w w' := by
  go_enter Try.func47, Try.ntmps47
  go_wp2_with fail
  go_loopw [3, 4] (fun t3 t4 wr => ∃ (n : Nat) (s : ByteArray), t3 = .string s ∧ t4 = .int .i64 n ∧ s.size + n ≤ i + 2 ∧ Hid (tx n s = textB i) ∧ Below w.heap.size w wr) (fun _ t4 _ => (intOf t4).toNat)
  case atStart => exact ⟨i + 1, ⟨#[109]⟩, rfl, by go_num, by show 1 + (i + 1) ≤ _; omega, Lib.hid rfl, Below.refl _ _⟩
  case round =>
    obtain ⟨n, s, rfl, rfl, hs, ht, hb⟩ := hrel
    generalize wr = w2 at *
    have hsz := hb.size
    by_cases hlt : 0 < n
    · have i1 : (0 : Int) < (n : Int) := by omega
      have ht1 : (n : Int).tmod 10 = ((n % 10 : Nat) : Int) := by rw [Int.tmod_eq_emod_of_nonneg (by omega)]; omega
      have ht2 : (n : Int).tdiv 10 = ((n / 10 : Nat) : Int) := by rw [Int.tdiv_eq_ediv_of_nonneg (by omega)]; omega
      have hq := Nat.div_lt_self hlt (show 1 < 10 by decide)
      have HTX := Lib.hid (tx_pos n s hlt)
      have hm : n % 10 < 10 := Nat.mod_lt _ (by decide)
      have HQ := Lib.hid (show n / 10 < n from hq)
      generalize n % 10 = d at *
      generalize n / 10 = n' at *
      have hw1 : IntKind.i64.wrap (48 + (d : Int)) = 48 + (d : Int) := IntWalk.i64_in _ (by omega)
      have hw2 : IntKind.u8.wrap (48 + (d : Int)) = ((48 + d : Nat) : Int) := by
        rw [IntKind.wrap]; simp [IntKind.bits, IntKind.signed]; omega
      have hcv := conv_byte w2 (48 + d) (by omega)
      rw [show ((48 + d : Nat) : Int) = 48 + (d : Int) by omega] at hcv hw2
      have hcs : ¬ (9223372036854775807 < s.size + 1) := by omega
      go_wp2_with fail
      have HB4 := Lib.hid (below_step hb (below_new w2 (.cells #[.int .u8 (48 + (d : Int))] 5)))
      have hsz1 : (s ++ (⟨#[48 + UInt8.ofNat d]⟩ : ByteArray)).size = s.size + 1 := by rw [ByteArray.size_append]; rfl
      have hxx : UInt8.ofNat (48 + d) = 48 + UInt8.ofNat d := by simp
      go_roundw
      case rel => exact ⟨n', s ++ ⟨#[48 + UInt8.ofNat d]⟩, rfl, by go_num, by rw [hsz1]; have := HQ.out; omega, Lib.hid (by rw [← ht.out, HTX.out, hxx]), HB4.out⟩
      case measure => have := HQ.out; simp [intOf]; omega
    · obtain rfl : n = 0 := by omega
      go_wp2_with fail
      go_ret
      exact ⟨by rw [← ht.out, tx_zero]; rfl, hb⟩
end Go.Proofs.Ytgnifglolbfamaa
