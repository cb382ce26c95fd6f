/- Texts of the claim, merged in build order: QV, QDT, QDU, QDV. -/
import Derived.Test.YtgnifglolbfamaaZAJ
import Derived.Test.YtgnifglolbfamaaZAE
import Derived.Test.YtgnifglolbfamaaZAF
import Derived.Laws.EntriesVeiled
/- Expressions with their blocks: what they read as, which blocks they have; place.own makes new ones, all of them different. -/
set_option linter.unusedVariables false
set_option linter.unusedSimpArgs false
namespace Go.Proofs.Ytgnifglolbfamaa
open Go.RowKit Go.Proofs.YtgnifglolbfamaaW.PrintWords

theorem reads_map {α β : Type} {R : α → List Value → Prop} {R' : β → List Value → Prop} {f : α → β} {sz : Nat} {w : World} {A : Option Addr} {n : Nat} {xs : List α} (h : ReadsRow R sz w A n xs) (hf : ∀ p c, p ∈ xs → R p c → R' (f p) c) : ReadsRow R' sz w A n (xs.map f) := by
  refine ⟨by rw [List.length_map]; exact h.1, h.2.1, fun hn => ?_⟩
  obtain ⟨ad, e, hc⟩ := h.2.2 hn
  refine ⟨ad, e, fun j p hj => ?_⟩
  rw [List.getElem?_map] at hj
  obtain ⟨q, hq, rfl⟩ := Option.map_eq_some_iff.1 hj
  obtain ⟨c, h1, h2, h3⟩ := hc j q hq
  exact ⟨c, h1, hf q c (List.mem_of_getElem? hq) h2, h3⟩
theorem kT_ex (w : World) : ∀ (n : Nat) (x : TX) (cs : List Value), (Kd.upto fT 10 [31] n).K w x cs → kEx.K w (exT x) cs
  | 0, _, _, h => h.elim
  | n + 1, x, cs, h => by
    obtain ⟨_, _, rfl, rfl, ⟨_, _, rfl, rfl, ⟨_, _, rfl, s2, ⟨_, _, rfl, rfl, ⟨_, _, rfl, rfl, ⟨_, _, rfl, rfl, ⟨rfl, l9, g9⟩⟩⟩⟩⟩⟩⟩ := h
    obtain rfl := kVal_open s2
    have hC : kEx.C w (x.g.map (fun g => ⟨g, 0, none⟩)) (x.kids.map exT).length (x.kids.map exT) := by
      rw [List.length_map]
      have hsz : (Kd.upto fT 10 [31] n).sz = kEx.sz := szT n
      have g9' : ReadsRow ((Kd.upto fT 10 [31] n).K w) (Kd.upto fT 10 [31] n).sz w (x.g.map (fun g => ⟨g, 0, none⟩)) x.kids.length x.kids := g9
      rw [hsz] at g9'
      exact reads_map g9' (fun p c _ hp => kT_ex w n p c hp)
    have hmk := kEx_mk w (exT x) (A9 := x.g.map (fun g => ⟨g, 0, none⟩)) (c9 := x.cap) (by rw [exT_eq]; simpa using l9) (by rw [exT_eq]; exact hC)
    rw [exT_eq] at hmk ⊢
    simp only [List.length_map] at hmk
    exact hmk
theorem kT_C {w : World} {A : Option Addr} {n : Nat} {ts : List TX} (h : kT.C w A n ts) : kEx.C w A n (ts.map exT) := reads_map (R := kT.K w) (R' := kEx.K w) h (fun p c _ ⟨m, hp⟩ => kT_ex w m p c hp)

theorem R_mem {α : Type} {d : Kd α} {e : Nat} {w : World} {base : Nat} {ok : Nat → Prop} {v : Value} {xs : List α} (h : d.R e w base ok v xs) : ∀ p ∈ xs, ∃ cs, d.M w base (fun k => ok k ∧ some k ≠ v.ownBlock) p cs := by
  intro p hp
  obtain ⟨_, inner, _, hr⟩ := h
  obtain ⟨j, hj, rfl⟩ := List.getElem_of_mem hp
  exact ⟨_, hr.2 j _ (List.getElem?_eq_getElem hj)⟩
theorem svT_own {α : Type} (x : Option Nat × Nat × List α) : (svT x).ownBlock = x.1 := by
  obtain ⟨g, c, l⟩ := x
  cases g <;> rfl
/-- Where an expression's blocks are. -/
theorem blT_at (w : World) (base : Nat) : ∀ (n : Nat) (ok : Nat → Prop) (x : TX) (cs : List Value), (Kd.upto fT 10 [31] n).M w base ok x cs → ∀ b ∈ blT x, ok b ∧ base ≤ b ∧ b < w.heap.size ∧ ∃ cells, w.heap[b]? = some (.cells cells 31 (0, 0))
  | 0, _, _, _, h => h.elim
  | n + 1, ok, x, cs, h => by
    obtain ⟨_, _, rfl, rfl, ⟨_, _, rfl, rfl, ⟨_, _, rfl, s2, ⟨_, _, rfl, rfl, ⟨_, _, rfl, rfl, ⟨_, _, rfl, rfl, ⟨rfl, g9⟩⟩⟩⟩⟩⟩⟩ := h
    intro b hb
    rw [blT_eq] at hb
    rcases List.mem_append.1 hb with hb | hb
    · have hg : x.g = some b := by simpa [Option.mem_toList] using hb
      have hown : (svT (x.g, x.cap, x.kids)).ownBlock = some b := by rw [svT_own]; exact hg
      obtain ⟨inner, ho⟩ := Kd.R_own g9
      obtain ⟨cells, hc⟩ := own_typed ho b hown
      exact ⟨g9.1 b hown, own_base ho b hown, own_lt ho b hown, cells, hc⟩
    · obtain ⟨p, hp, hb⟩ := List.mem_flatMap.1 hb
      obtain ⟨c, hM⟩ := R_mem g9 p hp
      obtain ⟨h1, h2, h3, h4⟩ := blT_at w base n _ p c hM b hb
      exact ⟨h1.1, h2, h3, h4⟩
theorem blTs_at {w : World} {base : Nat} {ok : Nat → Prop} {v : Value} {ts : List TX} (h : kT.R 31 w base ok v ts) : ∀ b ∈ ts.flatMap blT, ok b ∧ some b ≠ v.ownBlock ∧ base ≤ b ∧ b < w.heap.size ∧ ∃ cells, w.heap[b]? = some (.cells cells 31 (0, 0)) := by
  intro b hb
  obtain ⟨p, hp, hb⟩ := List.mem_flatMap.1 hb
  obtain ⟨c, n, hM⟩ := R_mem h p hp
  obtain ⟨h1, h2⟩ := blT_at w base n _ p c hM b hb
  exact ⟨h1.1, h1.2, h2⟩
theorem R_svT {w : World} {base : Nat} {ok : Nat → Prop} {v : Value} {ts : List TX} (h : kT.R 31 w base ok v ts) : ∃ g cap, v = svT (g, cap, ts) := by
  obtain ⟨inner, ho⟩ := Kd.R_own h
  rcases ho.2 with ⟨rfl, h0⟩ | ⟨g, cap, cur, rfl, _⟩
  · exact ⟨none, 0, by rw [List.eq_nil_of_length_eq_zero h0]; rfl⟩
  · exact ⟨some g, cap, rfl⟩

theorem ex_eta (x : Ex) : Ex.mk x.f0 x.f1 x.f2 x.f3 x.f4 x.f5 x.f6 = x := by cases x; rfl
def OwnT (x : Ex) (w : World) (e : Ending) (w' : World) : Prop := Below w.heap.size w w' ∧ ∃ t : TX, exT t = x ∧ e = .returned (exV x t.v) ∧ kT.R 31 w' w.heap.size (fun _ => True) t.v t.kids ∧ (blT t).Nodup

set_option maxHeartbeats 2000000 in
set_option maxRecDepth 100000 in
theorem own_deep : ∀ (m : Nat) (x : Ex) (A : Option Addr) (c : Nat) (w : World), exN x ≤ m → exN x ≤ 100000000000 → x.f6.length ≤ c → kEx.C w A x.f6.length x.f6 →
    Calls Try.prog 61 #[exV x (.slice A x.f6.length c)] w (OwnT x w) := by
  intro m
  induction m with
  | zero => intro x A c w h; rw [exN_eq] at h; omega
  | succ m ih =>
    intro x A c w hm hN hc hC
    rw [exN_eq] at hm hN
    have hmx := hC.2.1
    have h1 := below_new w (.cells #[.int .i64 x.f0, .int .i64 x.f1, .int .i64 x.f2.f0, .int .i64 x.f2.f1, .string x.f2.f2, .bool x.f2.f3, .string x.f3, .int .i64 x.f4, .string x.f5, .slice A x.f6.length c] 31)
    have hb2 := below_step h1 (below_new _ (.cells #[.int .i64 0, .int .i64 0, .int .i64 0, .int .i64 0, .string ⟨#[]⟩, .bool false, .string ⟨#[]⟩, .int .i64 0, .string ⟨#[]⟩, .slice none 0 0] 31))
    have hX := blk_new1 w (.cells #[.int .i64 x.f0, .int .i64 x.f1, .int .i64 x.f2.f0, .int .i64 x.f2.f1, .string x.f2.f2, .bool x.f2.f3, .string x.f3, .int .i64 x.f4, .string x.f5, .slice A x.f6.length c] 31) (.cells #[.int .i64 0, .int .i64 0, .int .i64 0, .int .i64 0, .string ⟨#[]⟩, .bool false, .string ⟨#[]⟩, .int .i64 0, .string ⟨#[]⟩, .slice none 0 0] 31)
    have hX := blk_below (blk_new w (.cells #[.int .i64 x.f0, .int .i64 x.f1, .int .i64 x.f2.f0, .int .i64 x.f2.f1, .string x.f2.f2, .bool x.f2.f3, .string x.f3, .int .i64 x.f4, .string x.f5, .slice A x.f6.length c] 31)) (below_new _ (.cells #[.int .i64 0, .int .i64 0, .int .i64 0, .int .i64 0, .string ⟨#[]⟩, .bool false, .string ⟨#[]⟩, .int .i64 0, .string ⟨#[]⟩, .slice none 0 0] 31))
    have hZ := blk_new (w.alloc (.cells #[.int .i64 x.f0, .int .i64 x.f1, .int .i64 x.f2.f0, .int .i64 x.f2.f1, .string x.f2.f2, .bool x.f2.f3, .string x.f3, .int .i64 x.f4, .string x.f5, .slice A x.f6.length c] 31)) (.cells #[.int .i64 0, .int .i64 0, .int .i64 0, .int .i64 0, .string ⟨#[]⟩, .bool false, .string ⟨#[]⟩, .int .i64 0, .string ⟨#[]⟩, .slice none 0 0] 31)
    have HS2 := Lib.hid (show ((w.alloc (.cells #[.int .i64 x.f0, .int .i64 x.f1, .int .i64 x.f2.f0, .int .i64 x.f2.f1, .string x.f2.f2, .bool x.f2.f3, .string x.f3, .int .i64 x.f4, .string x.f5, .slice A x.f6.length c] 31)).alloc (.cells #[.int .i64 0, .int .i64 0, .int .i64 0, .int .i64 0, .string ⟨#[]⟩, .bool false, .string ⟨#[]⟩, .int .i64 0, .string ⟨#[]⟩, .slice none 0 0] 31)).heap.size = w.heap.size + 2 by rw [alloc_size', alloc_size'])
    rw [alloc_size'] at hZ
    have HC := Lib.hid (Kd.C_below hC hb2)
    clear hC
    unfold exV
    go_enter Try.func61, Try.ntmps61
    go_wp2_with fail
    generalize (w.alloc (.cells #[.int .i64 x.f0, .int .i64 x.f1, .int .i64 x.f2.f0, .int .i64 x.f2.f1, .string x.f2.f2, .bool x.f2.f3, .string x.f3, .int .i64 x.f4, .string x.f5, .slice A x.f6.length c] 31)).alloc (.cells #[.int .i64 0, .int .i64 0, .int .i64 0, .int .i64 0, .string ⟨#[]⟩, .bool false, .string ⟨#[]⟩, .int .i64 0, .string ⟨#[]⟩, .slice none 0 0] 31) = W1 at *
    go_loopw [3, 9] (fun t3 t9 wr => ∃ k : Nat, k ≤ x.f6.length ∧ t9 = .int .i64 k ∧ Below W1.heap.size W1 wr ∧ ∃ ts : List TX, Hid (kT.R 31 wr W1.heap.size (fun _ => True) t3 ts) ∧ Hid (ts.map exT = x.f6.take k) ∧ Hid ((ts.flatMap blT).Nodup)) (fun _ t9 _ => x.f6.length - (intOf t9).toNat)
    case atStart => exact ⟨0, by omega, rfl, Below.refl _ _, [], Lib.hid (Kd.R_nil _ _ _ _ _), Lib.hid rfl, Lib.hid (by simp)⟩
    case round =>
      obtain ⟨k, hk, rfl, hB, ts, hO, hTS, hND⟩ := hrel
      have hsz := hB.size
      by_cases hlt : k < x.f6.length
      · have i1 : (0 : Int) ≤ (k : Int) := by omega
        have i2 : (k : Int) < x.f6.length := by omega
        have hat := atEx HC.out k i1 i2
        simp only [Int.toNat_natCast] at hat
        obtain ⟨ad, B9, b9, rfl, e0, e1, e2, e3, e4, e5, e6, e7, e8, e9, hl9, hi9⟩ := hat
        have e0 := pw_cell_below hB e0
        have e1 := pw_cell_below hB e1
        have e2 := pw_cell_below hB e2
        have e3 := pw_cell_below hB e3
        have e4 := pw_cell_below hB e4
        have e5 := pw_cell_below hB e5
        have e6 := pw_cell_below hB e6
        have e7 := pw_cell_below hB e7
        have e8 := pw_cell_below hB e8
        have e9 := pw_cell_below hB e9
        have HR := Lib.hid (rdEx_get x.f6 k hlt)
        generalize rdEx x.f6 k = y at *
        have HL := Lib.hid hl9
        have HI := Lib.hid hi9
        clear hl9 hi9
        have HT := Lib.hid (show x.f6.take (k + 1) = x.f6.take k ++ [y] by rw [List.take_succ_eq_append_getElem hlt, HR.out])
        have hxl : (x.f6.take k).length ≤ 100000000000 := by
          rw [List.length_take]
          have : x.f6.length ≤ exNL x.f6 := by
            have : ∀ l : List Ex, l.length ≤ exNL l := by
              intro l
              induction l with
              | nil => simp
              | cons a l ih => simp only [List.length_cons, exNL]; have := exN_eq a; omega
            exact this _
          omega
        have htl : ts.length ≤ 100000000000 := by have := congrArg List.length hTS.out; rw [List.length_map] at this; omega
        generalize hxs : x.f6.take k = xs at *
        go_wp2_with fail
        have hyN : exN y ≤ exNL x.f6 := by rw [HR.out]; exact exN_get _ _ hlt
        refine (ih y B9 b9 _ (by omega) (by omega) HL.out (Kd.C_below (Kd.C_below HI.out hB) (below_new _ _))).mono ?_
        rintro e W2 ⟨hb1, t, hte, rfl, hr1, hnd⟩
        have hO1 := Kd.R_below (Kd.R_below hO.out (below_new _ _)) hb1
        have hr2 := Kd.R_lower (Kd.R_newR hr1 (Kd.R_below hO.out (below_new _ _))) (below_step hB (below_new _ _)).size
        have hB1 := below_step (below_step hB (below_new _ _)) hb1
        have hM := kT_mkM W2 W1.heap.size _ t hr2
        have hsc : t.f0 = y.f0 ∧ t.f1 = y.f1 ∧ t.f2 = y.f2 ∧ t.f3 = y.f3 ∧ t.f4 = y.f4 ∧ t.f5 = y.f5 := by rw [← hte, exT_eq]; exact ⟨rfl, rfl, rfl, rfl, rfl, rfl⟩
        rw [hsc.1, hsc.2.1, hsc.2.2.1, hsc.2.2.2.1, hsc.2.2.2.2.1, hsc.2.2.2.2.2] at hM
        have hND2 : Hid (((ts ++ [t]).flatMap blT).Nodup) := Lib.hid (by
          rw [List.flatMap_append, List.nodup_append]
          refine ⟨hND.out, by simpa using hnd, fun a ha b hb => ?_⟩
          have h1 := (blTs_at hO.out a ha).2.2.2.1
          have hb' : b ∈ blT t := by simpa using hb
          rw [blT_eq] at hb'
          have hs1 := (below_new wr (.cells #[.int .i64 y.f0, .int .i64 y.f1, .int .i64 y.f2.f0, .int .i64 y.f2.f1, .string y.f2.f2, .bool y.f2.f3, .string y.f3, .int .i64 y.f4, .string y.f5, .slice B9 y.f6.length b9] 31)).size
          rcases List.mem_append.1 hb' with hb' | hb'
          · have hg : t.g = some b := by simpa [Option.mem_toList] using hb'
            obtain ⟨inner, ho⟩ := Kd.R_own hr1
            have := own_base ho b (by unfold TX.v; rw [svT_own]; exact hg)
            omega
          · have := (blTs_at hr1 b hb').2.2.1
            omega)
        have HTE := Lib.hid hte
        have hO := Lib.hid hO1
        have HM := Lib.hid hM
        have hle : (ts.length + 1) * 120 ≤ 140737488355328 := by omega
        have HXS := Lib.hid hxs
        clear hO1 hM hr1 hr2 hb1 hyN hxs hnd hte hsc
        unfold exV
        go_wp2_with (at_builtin; go_must (refine Kd.R_append kT (w0 := W1) (W := W2) W1.heap.size (by rfl) _ _ 24 31 _ 120 (by rfl) Try.underlying24 infoEx (by rfl) (by decide) (by omega) u3 ts t _ (fun _ => True) _ (by rfl) (by rfl) HM.out (fun _ h => h) (fun _ _ => trivial) hO.out hB1 hB1.size hle ?_))
        intro v2 w2 hR2 hB2 _ _
        go_wp2_with fail
        go_roundw
        case rel => exact ⟨k + 1, by omega, by go_num, hB2, ts ++ [t], Lib.hid hR2, Lib.hid (by rw [HT.out, List.map_append, hTS.out, ← HTE.out]; rfl), hND2⟩
        case measure => simp [intOf]; omega
      · have h := hO.out
        have hts := hTS.out
        rw [List.take_of_length_le (by omega)] at hts
        obtain ⟨go, co, hu⟩ := R_svT h
        have hlen : ts.length = x.f6.length := by have := congrArg List.length hts; simpa using this
        obtain ⟨Ao, hAo⟩ : ∃ Ao : Option Addr, Ao = go.map (fun g => ⟨g, 0, none⟩) := ⟨_, rfl⟩
        have hu2 : u3 = .slice Ao x.f6.length co := by rw [hu, hAo, ← hlen]; rfl
        subst hu2
        have HO := Lib.hid h
        have HTT := Lib.hid (show ∃ t : TX, exT t = x ∧ t.v = .slice Ao x.f6.length co ∧ t.kids = ts ∧ (blT t).Nodup from ⟨.mk x.f0 x.f1 x.f2 x.f3 x.f4 x.f5 go co ts, by rw [exT_eq]; show Ex.mk x.f0 x.f1 x.f2 x.f3 x.f4 x.f5 (ts.map exT) = x; rw [hts]; exact ex_eta x, by rw [hAo, ← hlen]; rfl, rfl, by
          rw [blT_eq]
          show (go.toList ++ ts.flatMap blT).Nodup
          rw [List.nodup_append]
          refine ⟨by cases go <;> simp, hND.out, fun a ha b hb => ?_⟩
          have hg : go = some a := by simpa [Option.mem_toList] using ha
          have h2 := (blTs_at h b hb).2.1
          intro e
          subst e
          exact h2 (by rw [hAo, hg]; rfl)⟩)
        clear hu hts hAo
        have hX2 := blk_below hX hB
        have hZ2 := blk_below hZ hB
        have y0 := (blk_cell hX2 0).trans rfl
        have y1 := (blk_cell hX2 1).trans rfl
        have y2 := (blk_cell hX2 2).trans rfl
        have y3 := (blk_cell hX2 3).trans rfl
        have y4 := (blk_cell hX2 4).trans rfl
        have y5 := (blk_cell hX2 5).trans rfl
        have y6 := (blk_cell hX2 6).trans rfl
        have y7 := (blk_cell hX2 7).trans rfl
        have y8 := (blk_cell hX2 8).trans rfl
        have y9 := (blk_cell hX2 9).trans rfl
        have z0 := (blk_cell hZ2 0).trans rfl
        have z1 := (blk_cell hZ2 1).trans rfl
        have z2 := (blk_cell hZ2 2).trans rfl
        have z3 := (blk_cell hZ2 3).trans rfl
        have z4 := (blk_cell hZ2 4).trans rfl
        have z5 := (blk_cell hZ2 5).trans rfl
        have z6 := (blk_cell hZ2 6).trans rfl
        have z7 := (blk_cell hZ2 7).trans rfl
        have z8 := (blk_cell hZ2 8).trans rfl
        have z9 := (blk_cell hZ2 9).trans rfl
        have f1 := blk_frozen hX2
        have f2 := blk_frozen hZ2
        go_wp2_with fail
        have HRK := Kd.R_mono (Kd.R_bound HO.out) (ok' := fun k => True ∧ w.heap.size + 2 ≤ k) (fun k hk => ⟨trivial, by have := hk.2.1; have := HS2.out; omega⟩)
        have HF := blk_far hZ2 (p := ⟨w.heap.size, 9, none⟩) (by show w.heap.size + 1 ≠ w.heap.size; omega) (.slice Ao x.f6.length co)
        have HRK2 := Kd.R_far (p := ⟨w.heap.size, 9, none⟩) HRK (fun k hk => by show k ≠ w.heap.size; have := hk.2; omega) (.slice Ao x.f6.length co)
        have HB2 := below_set (g := w.heap.size) (j := 9) (v := .slice Ao x.f6.length co) (below_step hb2 hB) (Nat.le_refl _)
        clear HRK
        generalize wr.setCell ⟨w.heap.size, 9, none⟩ (.slice Ao x.f6.length co) = W4 at *
        refine bodyPost_ret (results_cell_row rfl _ _ (w.heap.size + 1) 31 #[.int .i64 x.f0, .int .i64 x.f1, .int .i64 x.f2.f0, .int .i64 x.f2.f1, .string x.f2.f2, .bool x.f2.f3, .string x.f3, .int .i64 x.f4, .string x.f5, .slice Ao x.f6.length co] (0, 0) _ rfl (blk_set10 HF _ _ _ _ _ _ _ _ _ _) Try.underlying31 rfl (by kernel_rfl)) rfl ?_
        obtain ⟨t, ht1, ht2, ht3, ht4⟩ := HTT.out
        refine ⟨below_set10 HB2 (Nat.le_succ _) _ _ _ _ _ _ _ _ _ _, t, ht1, by rw [ht2]; rfl, ?_, ht4⟩
        rw [ht2, ht3]
        exact Kd.R_mono (Kd.R_lower (R_far10 HRK2 (w.heap.size + 1) (fun k hk => by have := hk.2; omega) _ _ _ _ _ _ _ _ _ _) (by have := HS2.out; omega)) (fun _ _ => trivial)
end Go.Proofs.Ytgnifglolbfamaa

/- The lists of conditions in a layout: where they lie, and what a condition more leaves. -/
set_option linter.unusedVariables false
set_option linter.unusedSimpArgs false
namespace Go.Proofs.Ytgnifglolbfamaa.D
open Go.RowKit Go.Proofs.YtgnifglolbfamaaW.PrintWords

def upd2 {α : Type} (F : Nat → Nat → α) (k i : Nat) (v : α) : Nat → Nat → α := fun k' i' => if k' = k ∧ i' = i then v else F k' i'
theorem upd2_same {α : Type} (F : Nat → Nat → α) (k i : Nat) (v : α) : upd2 F k i v k i = v := by simp [upd2]
theorem upd2_kind {α : Type} (F : Nat → Nat → α) (k i : Nat) (v : α) (k' : Nat) (h : k' ≠ k) : upd2 F k i v k' = F k' := by funext i'; simp [upd2, h]
theorem upd2_upd {α : Type} (F : Nat → Nat → α) (k i : Nat) (v : α) : upd2 F k i v k = upd (F k) i v := by funext i'; simp [upd2, upd]

structure LayIn (w : World) (base G : Nat) (cs : List Cp) (L : Nat → Nat → List TX) (S N : Nat) (T U : Nat → ByteArray) (Pl : Nat → Bool) (nb cap : Nat → Nat) (junk : Nat → Nat → Value) (V : Nat → Nat → Value) (f : Nat → Nat) : Prop where
  bS : base ≤ S
  bN : base ≤ N
  bG : base ≤ G
  hG : w.heap[G]? = some (.cells #[.slice (some ⟨S, 0, none⟩) (stg cs) (stg cs), .slice (some ⟨N, 0, none⟩) cs.length cs.length, V 5 0] 102 (0, 0))
  hN : w.rowIs N 132 cs.length (ptrN cs nb cs.length)
  hS : w.rowIs S 71 (stg cs * 7) (cellS T U Pl (nv cs nb cap) (V 1) (V 2) (V 3))
  hB : ∀ s, ngI cs cs.length s ≠ [] → base ≤ nb s ∧ ((ngI cs cs.length s).length ≤ cap s ∧ cap s ≤ maxLen) ∧ w.rowIs (nb s) 73 (cap s * 3) (cellN cs s (V 4) (junk s))
  inj : ∀ s s', ngI cs cs.length s ≠ [] → ngI cs cs.length s' ≠ [] → s ≠ s' → nb s ≠ nb s'
  hL : ∀ k i, k < 8 → kT.R 31 w base (fun b => f b = 8 * i + k) (V k i) (L k i)
  nd : ∀ k i, k < 8 → ((L k i).flatMap blT).Nodup
  hT : ∀ i, i < cs.length → negB cs i = false → T (stA cs i) = (cpA cs i).f2 ∧ U (stA cs i) = (cpA cs i).f3 ∧ Pl (stA cs i) = (cpA cs i).f1

/-- The addresses of the places. -/
def adr (cs : List Cp) (G S : Nat) (nb : Nat → Nat) (k i : Nat) : Nat × Nat :=
  if k = 1 then (S, i * 7 + 4) else if k = 2 then (S, i * 7 + 5) else if k = 3 then (S, i * 7 + 6) else if k = 4 then (nb (stA cs i), (ngI cs i (stA cs i)).length * 3 + 2) else (G, 2)
def VP (cs : List Cp) (k i : Nat) : Prop := ((k = 1 ∨ k = 2 ∨ k = 3) ∧ i < stg cs) ∨ (k = 4 ∧ i < cs.length ∧ negB cs i = true) ∨ (k = 5 ∧ i = 0)

theorem LayIn.below {w w1 : World} {base G : Nat} {cs : List Cp} {L : Nat → Nat → List TX} {S N : Nat} {T U : Nat → ByteArray} {Pl : Nat → Bool} {nb cap : Nat → Nat} {junk V : Nat → Nat → Value} {f : Nat → Nat}
    (h : LayIn w base G cs L S N T U Pl nb cap junk V f) (hb : Below w.heap.size w w1) : LayIn w1 base G cs L S N T U Pl nb cap junk V f :=
  ⟨h.bS, h.bN, h.bG, blk_below h.hG hb, rowIs_below h.hN hb, rowIs_below h.hS hb, fun s hs => ⟨(h.hB s hs).1, (h.hB s hs).2.1, rowIs_below (h.hB s hs).2.2 hb⟩, h.inj, fun k i hk => Kd.R_below (h.hL k i hk) hb, h.nd, h.hT⟩

theorem lo2_lay {w : World} {base S N G X : Nat} {cs : List Cp} (h : Lo2 w base S N G X cs cs.length) : ∃ T U Pl nb cap junk, LayIn w base G cs (fun _ _ => []) S N T U Pl nb cap junk (fun _ _ => .slice none 0 0) (fun _ => 0) := by
  obtain ⟨h1, h2, h3, h4, h5, h6, T, U, Pl, nb, cap, junk, h7, h8, h9, h10, h11⟩ := h
  exact ⟨T, U, Pl, nb, cap, junk, h1, h2, h3, h5, h7, h8, h9, h10, fun k i _ => Kd.R_nil _ _ _ _ _, fun k i _ => by simp, h11⟩

theorem ngI_split (cs : List Cp) (i : Nat) (hi : i < cs.length) (hn : negB cs i = true) : ∃ t, ngI cs cs.length (stA cs i) = ngI cs i (stA cs i) ++ i :: t := by
  have : ∀ j, i + 1 ≤ j → ∃ t, ngI cs j (stA cs i) = ngI cs i (stA cs i) ++ i :: t := by
    intro j hj
    induction j with
    | zero => omega
    | succ j ih =>
      rcases Nat.lt_or_ge i j with h | h
      · obtain ⟨t, ht⟩ := ih (by omega)
        rw [ngI_succ, ht]
        exact ⟨t ++ _, by rw [List.append_assoc, List.cons_append]⟩
      · have : j = i := by omega
        subst this
        rw [ngI_succ, hn]
        exact ⟨[], by simp⟩
  exact this _ (by omega)
theorem ngI_at (cs : List Cp) (i : Nat) (hi : i < cs.length) (hn : negB cs i = true) : (ngI cs cs.length (stA cs i))[(ngI cs i (stA cs i)).length]? = some i := by
  obtain ⟨t, ht⟩ := ngI_split cs i hi hn
  rw [ht]
  simp
theorem ngI_nodup (cs : List Cp) (k s : Nat) : (ngI cs k s).Nodup := by
  unfold ngI
  exact List.nodup_range.filter _
theorem nodup_get {l : List Nat} (h : l.Nodup) {a b : Nat} {x : Nat} (ha : l[a]? = some x) (hb : l[b]? = some x) : a = b := by
  obtain ⟨ha1, ha2⟩ := List.getElem?_eq_some_iff.1 ha
  obtain ⟨hb1, hb2⟩ := List.getElem?_eq_some_iff.1 hb
  have hp := List.pairwise_iff_getElem.1 h
  rcases Nat.lt_trichotomy a b with h1 | h1 | h1
  · exact absurd (ha2.trans hb2.symm) (hp a b ha1 hb1 h1)
  · exact h1
  · exact absurd (hb2.trans ha2.symm) (hp b a hb1 ha1 h1)

theorem cellN_at (cs : List Cp) (C junk : Nat → Value) (i r : Nat) (hi : i < cs.length) (hn : negB cs i = true) (hr : r < 3) : cellN cs (stA cs i) C junk ((ngI cs i (stA cs i)).length * 3 + r) = if r = 0 then .string (cpA cs i).f2 else if r = 1 then .string (cpA cs i).f3 else C i := by
  unfold cellN
  rw [show ((ngI cs i (stA cs i)).length * 3 + r) / 3 = (ngI cs i (stA cs i)).length from by omega, ngI_at cs i hi hn, show ((ngI cs i (stA cs i)).length * 3 + r) % 3 = r from by omega]
theorem cellN_set (cs : List Cp) (C junk : Nat → Value) (i : Nat) (hi : i < cs.length) (hn : negB cs i = true) (v : Value) (o : Nat) : (if o = (ngI cs i (stA cs i)).length * 3 + 2 then v else cellN cs (stA cs i) C junk o) = cellN cs (stA cs i) (upd C i v) junk o := by
  by_cases h : o = (ngI cs i (stA cs i)).length * 3 + 2
  · subst h
    rw [if_pos rfl, cellN_at cs _ _ i 2 hi hn (by omega)]
    simp [upd]
  · rw [if_neg h]
    unfold cellN
    cases hj : (ngI cs cs.length (stA cs i))[o / 3]? with
    | none => rfl
    | some i' =>
      by_cases h0 : o % 3 = 0
      · simp [h0]
      by_cases h1 : o % 3 = 1
      · simp [h1]
      simp only [h0, h1, if_false]
      have h2 : o % 3 = 2 := by have := Nat.mod_lt o (show 3 > 0 by omega); omega
      have hne : i' ≠ i := by
        rintro rfl
        have := nodup_get (ngI_nodup cs _ _) hj (ngI_at cs i' hi hn)
        omega
      unfold upd
      rw [if_neg hne]

section
variable {w : World} {base G : Nat} {cs : List Cp} {L : Nat → Nat → List TX} {S N : Nat} {T U : Nat → ByteArray} {Pl : Nat → Bool} {nb cap : Nat → Nat} {junk V : Nat → Nat → Value} {f : Nat → Nat}
theorem ngI_lt_cap (h : LayIn w base G cs L S N T U Pl nb cap junk V f) (i : Nat) (hi : i < cs.length) (hn : negB cs i = true) : (ngI cs i (stA cs i)).length < cap (stA cs i) := by
  have h1 := (h.hB _ (ngI_ne hi hn)).2.1.1
  have := (List.getElem?_eq_some_iff.1 (ngI_at cs i hi hn)).1
  omega
/-- The place's cell. -/
theorem LayIn.at_ (h : LayIn w base G cs L S N T U Pl nb cap junk V f) (k i : Nat) (hv : VP cs k i) :
    w.cell? ⟨(adr cs G S nb k i).1, (adr cs G S nb k i).2, none⟩ = some (V k i) ∧ w.frozen? ⟨(adr cs G S nb k i).1, (adr cs G S nb k i).2, none⟩ = false ∧ base ≤ (adr cs G S nb k i).1 ∧ ∃ t cells, t ≠ 31 ∧ w.heap[(adr cs G S nb k i).1]? = some (.cells cells t (0, 0)) := by
  rcases hv with ⟨rfl | rfl | rfl, hi⟩ | ⟨rfl, hi, hn⟩ | ⟨rfl, rfl⟩
  · exact ⟨(h.hS.cell (i := i * 7 + 4) (by omega)).trans (by rw [cellS_at4]), h.hS.frozen _, h.bS, 71, by obtain ⟨c, hc, _⟩ := h.hS; exact ⟨c, by decide, hc⟩⟩
  · exact ⟨(h.hS.cell (i := i * 7 + 5) (by omega)).trans (by rw [cellS_at5]), h.hS.frozen _, h.bS, 71, by obtain ⟨c, hc, _⟩ := h.hS; exact ⟨c, by decide, hc⟩⟩
  · exact ⟨(h.hS.cell (i := i * 7 + 6) (by omega)).trans (by rw [cellS_at6]), h.hS.frozen _, h.bS, 71, by obtain ⟨c, hc, _⟩ := h.hS; exact ⟨c, by decide, hc⟩⟩
  · obtain ⟨h1, h2, h3⟩ := h.hB _ (ngI_ne hi hn)
    have := ngI_lt_cap h i hi hn
    exact ⟨(h3.cell (i := (ngI cs i (stA cs i)).length * 3 + 2) (by omega)).trans (by rw [cellN_at cs _ _ i 2 hi hn (by omega)]; rfl), h3.frozen _, h1, 73, by obtain ⟨c, hc, _⟩ := h3; exact ⟨c, by decide, hc⟩⟩
  · exact ⟨(blk_cell h.hG 2).trans rfl, blk_frozen h.hG 2, h.bG, 102, _, by decide, h.hG⟩

theorem LayIn.put (h : LayIn w base G cs L S N T U Pl nb cap junk V f) {w1 : World} {k i : Nat} {v1 : Value} {xs : List TX} (hv : VP cs k i) (hg : w.grownBy w1 (V k i).ownBlock)
    (hR : kT.R 31 w1 base (fun b => (if w.heap.size ≤ b then 8 * i + k else f b) = 8 * i + k) v1 xs) (hnd : (xs.flatMap blT).Nodup) :
    LayIn (w1.setCell ⟨(adr cs G S nb k i).1, (adr cs G S nb k i).2, none⟩ v1) base G cs (upd2 L k i xs) S N T U Pl nb cap junk (upd2 V k i v1) (fun b => if w.heap.size ≤ b then 8 * i + k else f b) := by
  have hk8 : k < 8 := by rcases hv with ⟨h | h | h, _⟩ | ⟨h, _⟩ | ⟨h, _⟩ <;> omega
  have hR0 := h.hL k i hk8
  have G1 := blk_grown h.hG hg (Kd.R_ne hR0 h.hG (by decide))
  have N1 := rowIs_far h.hN hg (R_ne_row hR0 h.hN (by decide))
  have S1 := rowIs_far h.hS hg (R_ne_row hR0 h.hS (by decide))
  have B1 : ∀ s, ngI cs cs.length s ≠ [] → base ≤ nb s ∧ ((ngI cs cs.length s).length ≤ cap s ∧ cap s ≤ maxLen) ∧ w1.rowIs (nb s) 73 (cap s * 3) (cellN cs s (V 4) (junk s)) :=
    fun s hs => ⟨(h.hB s hs).1, (h.hB s hs).2.1, rowIs_far (h.hB s hs).2.2 hg (R_ne_row hR0 (h.hB s hs).2.2 (by decide))⟩
  have ND : ∀ k' i', k' < 8 → ((upd2 L k i xs k' i').flatMap blT).Nodup := by
    intro k' i' hk'
    unfold upd2
    split
    · exact hnd
    · exact h.nd k' i' hk'
  -- the lists
  have HL : ∀ (b t : Nat) (cells : Array Value) (j : Nat), t ≠ 31 → w1.heap[b]? = some (.cells cells t (0, 0)) → ∀ k' i', k' < 8 → kT.R 31 (w1.setCell ⟨b, j, none⟩ v1) base (fun b => (if w.heap.size ≤ b then 8 * i + k else f b) = 8 * i' + k') (upd2 V k i v1 k' i') (upd2 L k i xs k' i') := by
    intro b t cells j ht hb k' i' hk'
    have hq : ∀ q, q ∈ (31 : Nat) :: kT.E → q ≠ t := by
      intro q hq
      have : q = 31 := by
        have e : kT.E = [31] := rfl
        rw [e] at hq
        simpa using hq
      omega
    unfold upd2
    by_cases he : k' = k ∧ i' = i
    · obtain ⟨rfl, rfl⟩ := he
      rw [if_pos ⟨rfl, rfl⟩, if_pos ⟨rfl, rfl⟩]
      exact Kd.R_set hR hb hq _ _
    · rw [if_neg he, if_neg he]
      have h1 := Kd.R_mono (Kd.R_bound (h.hL k' i' hk')) (ok' := fun b => f b = 8 * i' + k' ∧ b < w.heap.size) (fun b hb => ⟨hb.1, hb.2.2.1⟩)
      have h2 := Kd.R_grown h1 hg (fun b hb he2 => by
        have := hR0.1 b he2.symm
        simp only at this hb
        have e := hb.1.symm.trans this
        exact he (by omega))
      exact Kd.R_mono (Kd.R_set h2 hb hq _ _) (fun b hb => by show (if w.heap.size ≤ b then 8 * i + k else f b) = 8 * i' + k'; rw [if_neg (by omega)]; exact hb.1)
  obtain ⟨cN, hcN, _⟩ := id N1
  obtain ⟨cS, hcS, _⟩ := id S1
  have nGS : G ≠ S := fun e => rowIs_blk_ne S1 G1 (by decide) e.symm
  have nNS : N ≠ S := rowIs_ne N1 S1 (by decide)
  have nGN : G ≠ N := fun e => rowIs_blk_ne N1 G1 (by decide) e.symm
  have nBS : ∀ s, ngI cs cs.length s ≠ [] → nb s ≠ S := fun s hs => rowIs_ne (B1 s hs).2.2 S1 (by decide)
  have nBN : ∀ s, ngI cs cs.length s ≠ [] → nb s ≠ N := fun s hs => rowIs_ne (B1 s hs).2.2 N1 (by decide)
  have nBG : ∀ s, ngI cs cs.length s ≠ [] → nb s ≠ G := fun s hs => rowIs_blk_ne (B1 s hs).2.2 G1 (by decide)
  rcases hv with ⟨rfl | rfl | rfl, hi⟩ | ⟨rfl, hi, hn⟩ | ⟨rfl, rfl⟩
  · refine ⟨h.bS, h.bN, h.bG, ?_, N1.setOther (a := ⟨S, i * 7 + 4, none⟩) nNS _, ?_, ?_, h.inj, HL S 71 cS (i * 7 + 4) (by decide) hcS, ND, h.hT⟩
    · rw [show upd2 V 1 i v1 5 0 = V 5 0 from by simp [upd2]]; exact blk_far G1 (p := ⟨S, i * 7 + 4, none⟩) nGS _
    · rw [upd2_upd, upd2_kind V 1 i v1 2 (by decide), upd2_kind V 1 i v1 3 (by decide)]
      exact (S1.set (i * 7 + 4) v1).congr (fun o _ => cellS_set4 _ _ _ _ _ _ _ _ _ _)
    · rw [upd2_kind V 1 i v1 4 (by decide)]
      exact fun s hs => ⟨(B1 s hs).1, (B1 s hs).2.1, (B1 s hs).2.2.setOther (a := ⟨S, i * 7 + 4, none⟩) (nBS s hs) _⟩
  · refine ⟨h.bS, h.bN, h.bG, ?_, N1.setOther (a := ⟨S, i * 7 + 5, none⟩) nNS _, ?_, ?_, h.inj, HL S 71 cS (i * 7 + 5) (by decide) hcS, ND, h.hT⟩
    · rw [show upd2 V 2 i v1 5 0 = V 5 0 from by simp [upd2]]; exact blk_far G1 (p := ⟨S, i * 7 + 5, none⟩) nGS _
    · rw [upd2_upd, upd2_kind V 2 i v1 1 (by decide), upd2_kind V 2 i v1 3 (by decide)]
      exact (S1.set (i * 7 + 5) v1).congr (fun o _ => cellS_set5 _ _ _ _ _ _ _ _ _ _)
    · rw [upd2_kind V 2 i v1 4 (by decide)]
      exact fun s hs => ⟨(B1 s hs).1, (B1 s hs).2.1, (B1 s hs).2.2.setOther (a := ⟨S, i * 7 + 5, none⟩) (nBS s hs) _⟩
  · refine ⟨h.bS, h.bN, h.bG, ?_, N1.setOther (a := ⟨S, i * 7 + 6, none⟩) nNS _, ?_, ?_, h.inj, HL S 71 cS (i * 7 + 6) (by decide) hcS, ND, h.hT⟩
    · rw [show upd2 V 3 i v1 5 0 = V 5 0 from by simp [upd2]]; exact blk_far G1 (p := ⟨S, i * 7 + 6, none⟩) nGS _
    · rw [upd2_upd, upd2_kind V 3 i v1 1 (by decide), upd2_kind V 3 i v1 2 (by decide)]
      exact (S1.set (i * 7 + 6) v1).congr (fun o _ => cellS_set6 _ _ _ _ _ _ _ _ _ _)
    · rw [upd2_kind V 3 i v1 4 (by decide)]
      exact fun s hs => ⟨(B1 s hs).1, (B1 s hs).2.1, (B1 s hs).2.2.setOther (a := ⟨S, i * 7 + 6, none⟩) (nBS s hs) _⟩
  · have hne := ngI_ne hi hn
    obtain ⟨b1, b2, b3⟩ := B1 _ hne
    obtain ⟨cB, hcB, _⟩ := id b3
    refine ⟨h.bS, h.bN, h.bG, ?_, N1.setOther (a := ⟨nb (stA cs i), (ngI cs i (stA cs i)).length * 3 + 2, none⟩) (fun e => nBN _ hne e.symm) _, ?_, ?_, h.inj, HL (nb (stA cs i)) 73 cB ((ngI cs i (stA cs i)).length * 3 + 2) (by decide) hcB, ND, h.hT⟩
    · rw [show upd2 V 4 i v1 5 0 = V 5 0 from by simp [upd2]]; exact blk_far G1 (p := ⟨nb (stA cs i), (ngI cs i (stA cs i)).length * 3 + 2, none⟩) (fun e => nBG _ hne e.symm) _
    · rw [upd2_kind V 4 i v1 1 (by decide), upd2_kind V 4 i v1 2 (by decide), upd2_kind V 4 i v1 3 (by decide)]
      exact S1.setOther (a := ⟨nb (stA cs i), (ngI cs i (stA cs i)).length * 3 + 2, none⟩) (fun e => nBS _ hne e.symm) _
    · intro s hs
      obtain ⟨c1, c2, c3⟩ := B1 s hs
      refine ⟨c1, c2, ?_⟩
      rw [upd2_upd]
      by_cases hss : s = stA cs i
      · subst hss
        exact (c3.set ((ngI cs i (stA cs i)).length * 3 + 2) v1).congr (fun o _ => cellN_set cs _ _ i hi hn _ _)
      · refine (c3.setOther (a := ⟨nb (stA cs i), (ngI cs i (stA cs i)).length * 3 + 2, none⟩) (h.inj s _ hs hne hss) _).congr (fun o _ => ?_)
        unfold cellN
        cases hj : (ngI cs cs.length s)[o / 3]? with
        | none => rfl
        | some i' =>
          have hm := ngI_lt (List.mem_of_getElem? hj)
          have : i' ≠ i := by rintro rfl; exact hss hm.2.2.symm
          simp [upd, this]
  · refine ⟨h.bS, h.bN, h.bG, ?_, N1.setOther (a := ⟨G, 2, none⟩) (fun e => nGN e.symm) _, ?_, ?_, h.inj, HL G 102 _ 2 (by decide) G1, ND, h.hT⟩
    · rw [upd2_same]
      exact blk_set G1 2 v1
    · rw [upd2_kind V 5 0 v1 1 (by decide), upd2_kind V 5 0 v1 2 (by decide), upd2_kind V 5 0 v1 3 (by decide)]
      exact S1.setOther (a := ⟨G, 2, none⟩) (fun e => nGS e.symm) _
    · rw [upd2_kind V 5 0 v1 4 (by decide)]
      exact fun s hs => ⟨(B1 s hs).1, (B1 s hs).2.1, (B1 s hs).2.2.setOther (a := ⟨G, 2, none⟩) (nBG s hs) _⟩
end
end Go.Proofs.Ytgnifglolbfamaa.D

/- The walks of place.listsOf, of its functions, and of layout.add. -/
set_option linter.unusedVariables false
set_option linter.unusedSimpArgs false
namespace Go.Proofs.Ytgnifglolbfamaa.D
open Go.RowKit Go.Proofs.YtgnifglolbfamaaW.PrintWords

def listsV : Array Value := #[.int .i64 1, .func (.func 72) #[] #[], .int .i64 2, .func (.func 73) #[] #[], .int .i64 3, .func (.func 74) #[] #[], .int .i64 4, .func (.func 75) #[] #[], .int .i64 5, .func (.func 76) #[] #[]]
set_option maxHeartbeats 2000000 in
set_option maxRecDepth 100000 in
theorem listsOf_any (w : World) : Calls Try.prog 60 #[] w fun e w' => e = .returned (.agg listsV) ∧ Below w.heap.size w w' := by
  go_enter Try.func60, Try.ntmps60
  go_wp2_with fail
  refine bodyPost_ret (results_cell_row rfl _ _ w.heap.size 136 listsV (0, 0) _ rfl (blk_new w _) Try.underlying136 rfl (by kernel_rfl)) rfl ?_
  exact ⟨rfl, below_new _ _⟩
section
variable {w : World} {base G : Nat} {cs : List Cp} {L : Nat → Nat → List TX} {S N : Nat} {T U : Nat → ByteArray} {Pl : Nat → Bool} {nb cap : Nat → Nat} {junk V : Nat → Nat → Value} {f : Nat → Nat}
set_option maxHeartbeats 2000000 in
set_option maxRecDepth 100000 in
theorem find1_any (h : LayIn w base G cs L S N T U Pl nb cap junk V f) (i : Nat) (hv : VP cs 1 i) :
    Calls Try.prog 72 #[.pointer (some ⟨G, 0, none⟩), .int .i64 i] w fun e w' => e = .returned (.pointer (some ⟨(adr cs G S nb 1 i).1, (adr cs G S nb 1 i).2, none⟩)) ∧ w' = w := by
  have hi : i < stg cs := by rcases hv with ⟨_, h⟩ | ⟨h, _⟩ | ⟨h, _⟩ <;> first | exact h | (exact absurd h (by decide))
  have i1 : (0 : Int) ≤ (i : Int) := by omega
  have i2 : (i : Int) < (stg cs : Int) := by omega
  have g0 := (blk_cell h.hG 0).trans rfl
  go_enter Try.func72, Try.ntmps72
  go_wp2_with fail
  go_ret
  exact ⟨rfl, rfl⟩
set_option maxHeartbeats 2000000 in
set_option maxRecDepth 100000 in
theorem find2_any (h : LayIn w base G cs L S N T U Pl nb cap junk V f) (i : Nat) (hv : VP cs 2 i) :
    Calls Try.prog 73 #[.pointer (some ⟨G, 0, none⟩), .int .i64 i] w fun e w' => e = .returned (.pointer (some ⟨(adr cs G S nb 2 i).1, (adr cs G S nb 2 i).2, none⟩)) ∧ w' = w := by
  have hi : i < stg cs := by rcases hv with ⟨_, h⟩ | ⟨h, _⟩ | ⟨h, _⟩ <;> first | exact h | (exact absurd h (by decide))
  have i1 : (0 : Int) ≤ (i : Int) := by omega
  have i2 : (i : Int) < (stg cs : Int) := by omega
  have g0 := (blk_cell h.hG 0).trans rfl
  go_enter Try.func73, Try.ntmps73
  go_wp2_with fail
  go_ret
  exact ⟨rfl, rfl⟩
set_option maxHeartbeats 2000000 in
set_option maxRecDepth 100000 in
theorem find3_any (h : LayIn w base G cs L S N T U Pl nb cap junk V f) (i : Nat) (hv : VP cs 3 i) :
    Calls Try.prog 74 #[.pointer (some ⟨G, 0, none⟩), .int .i64 i] w fun e w' => e = .returned (.pointer (some ⟨(adr cs G S nb 3 i).1, (adr cs G S nb 3 i).2, none⟩)) ∧ w' = w := by
  have hi : i < stg cs := by rcases hv with ⟨_, h⟩ | ⟨h, _⟩ | ⟨h, _⟩ <;> first | exact h | (exact absurd h (by decide))
  have i1 : (0 : Int) ≤ (i : Int) := by omega
  have i2 : (i : Int) < (stg cs : Int) := by omega
  have g0 := (blk_cell h.hG 0).trans rfl
  go_enter Try.func74, Try.ntmps74
  go_wp2_with fail
  go_ret
  exact ⟨rfl, rfl⟩
set_option maxHeartbeats 2000000 in
set_option maxRecDepth 100000 in
theorem find4_any (h : LayIn w base G cs L S N T U Pl nb cap junk V f) (i : Nat) (hv : VP cs 4 i) :
    Calls Try.prog 75 #[.pointer (some ⟨G, 0, none⟩), .int .i64 i] w fun e w' => e = .returned (.pointer (some ⟨(adr cs G S nb 4 i).1, (adr cs G S nb 4 i).2, none⟩)) ∧ w' = w := by
  have hi : i < cs.length ∧ negB cs i = true := by rcases hv with ⟨h, _⟩ | ⟨_, h⟩ | ⟨h, _⟩ <;> first | exact h | (exact absurd h (by decide))
  have i1 : (0 : Int) ≤ (i : Int) := by omega
  have i2 : (i : Int) < (cs.length : Int) := by omega
  have g0 := (blk_cell h.hG 1).trans rfl
  have n0 : w.cell? ⟨N, i, none⟩ = some (.pointer (some ⟨nb (stA cs i), (ngI cs i (stA cs i)).length * 3, none⟩)) := by
    rw [h.hN.cell hi.1]
    unfold ptrN
    rw [if_pos hi]
  have hadr : adr cs G S nb 4 i = (nb (stA cs i), (ngI cs i (stA cs i)).length * 3 + 2) := rfl
  rw [hadr]
  clear hadr hi hv
  go_enter Try.func75, Try.ntmps75
  go_wp2_with fail
  go_ret
  exact ⟨rfl, rfl⟩
set_option maxHeartbeats 2000000 in
set_option maxRecDepth 100000 in
theorem find5_any (h : LayIn w base G cs L S N T U Pl nb cap junk V f) (i : Nat) :
    Calls Try.prog 76 #[.pointer (some ⟨G, 0, none⟩), .int .i64 i] w fun e w' => e = .returned (.pointer (some ⟨(adr cs G S nb 5 i).1, (adr cs G S nb 5 i).2, none⟩)) ∧ w' = w := by
  have hadr : adr cs G S nb 5 i = (G, 2) := rfl
  rw [hadr]
  go_enter Try.func76, Try.ntmps76
  go_wp2_with fail
  go_ret
  exact ⟨rfl, rfl⟩
end
end Go.Proofs.Ytgnifglolbfamaa.D

/- What layout.add writes: an element more, laid as zero first and then written. -/
set_option linter.unusedVariables false
set_option linter.unusedSimpArgs false
namespace Go.Proofs.Ytgnifglolbfamaa.D
open Go.RowKit Go.Proofs.YtgnifglolbfamaaW.PrintWords

theorem setCell_comm (w : World) (p q : Addr) (u v : Value) (h : p.block ≠ q.block) : (w.setCell p u).setCell q v = (w.setCell q v).setCell p u := by
  unfold World.setCell
  simp only
  congr 1
  apply Array.ext_getElem?
  intro i
  simp only [Array.getElem?_modify]
  by_cases h1 : q.block = i
  · have h2 : ¬ p.block = i := fun e => h (e.trans h1.symm)
    simp [h1, h2]
  · by_cases h2 : p.block = i <;> simp [h1, h2]

def z10 : Array Value := #[.int .i64 0, .int .i64 0, .int .i64 0, .int .i64 0, .string ⟨#[]⟩, .bool false, .string ⟨#[]⟩, .int .i64 0, .string ⟨#[]⟩, .slice none 0 0]
section
variable {ops : Array Oper} {o : Oper} {a : Act} {Q : Exit → Act → World → Prop} {K : Act → World → Prop} {E : Prop}
theorem step_ex {w0 W : World} (base : Nat) (hgd : o.guard = none) (s x : Operand) (ho : o.op = .call { callee := .builtin .append, args := #[s, x], argTypes := #[24, 24] })
    (v : Value) (xs : List TX) (n : Nat) (hn : n = xs.length) (gz : Nat) (hgz : W.heap[gz]? = some (.cells z10 31 (0, 0))) (ok : Nat → Prop) (hfresh : ∀ k, W.heap.size ≤ k → ok k) (hs : a.eval s = v) (hx : a.eval x = .slice (some ⟨gz, 0, none⟩) 1 1)
    (HO : kT.R 31 W base ok v xs) (HB : Below base w0 W) (hbase : base ≤ W.heap.size) (hl : (xs.length + 1) * 120 ≤ 140737488355328)
    (h : ∀ g cap w1, kT.R 31 w1 base ok (.slice (some ⟨g, 0, none⟩) (n + 1) cap) (xs ++ [zTX]) → Below base w0 w1 → W.grownBy w1 v.ownBlock → (v.ownBlock = some g ∨ W.heap.size ≤ g) → K (a.put o.dst (.slice (some ⟨g, 0, none⟩) (n + 1) cap)) w1) :
    if Region.wanted o (yielded ops a.tmps) = true then Oper.wp Try.prog o a W K Q else E := by
  subst hn
  have hw : Region.wanted o (yielded ops a.tmps) = true := by simp [Region.wanted, hgd]
  have HR : ReadsRow (fun (x : TX) (c : List Value) => x = zTX ∧ c = z10.toList) 10 W (some ⟨gz, 0, none⟩) 1 [zTX] := by
    refine ⟨rfl, by omega, fun _ => ⟨_, rfl, fun j p hj => ?_⟩⟩
    obtain rfl : j = 0 := by
      rcases j with _ | j
      · rfl
      · simp at hj
    simp at hj
    refine ⟨z10.toList, rfl, ⟨hj.symm, rfl⟩, fun i u hu => ?_⟩
    have e : Addr.add ⟨gz, 0, none⟩ (0 * 10 + i) = ⟨gz, i, none⟩ := by
      simp only [Addr.add]
      split
      · rename_i h; simp at h; rw [h]
      · simp
    rw [e, blk_cell hgz]
    rw [← Array.getElem?_toList]
    exact hu
  have := Kd.R_append_rows_step (P := Try.prog) (ops := ops) (o := o) (a := a) (Q := Q) (Kc := K) kT (w0 := w0) (W := W) base hw s x 24 31 _ 120 ho Try.underlying24 infoEx rfl (by decide) (by omega) v xs [zTX] _ 1 1 ok (fun _ => False) hs hx HO HR
    (fun x c hx => by obtain ⟨rfl, rfl⟩ := hx; exact kT_mkM W base _ zTX (Kd.R_nil _ _ _ _ _)) (fun _ h => h.elim) hfresh HB hbase hl
    (fun v1 w1 h1 h2 h3 h4 => by
      obtain ⟨inner, hown⟩ := Kd.R_own h1
      obtain ⟨g, cap, rfl, _, _⟩ := hown.form (by simp)
      rw [List.length_append, List.length_singleton] at h1 ⊢
      refine h g cap w1 h1 h2 h3 ?_
      rcases h4 with h4 | ⟨b, hb, hle⟩
      · left; rw [← h4]; rfl
      · right
        have : g = b := by simpa [Value.ownBlock] using hb
        omega)
  rw [if_pos hw] at this ⊢
  exact this
end

/-- The last element is written. -/
theorem R_last {W : World} {g cap base n : Nat} {ok okp : Nat → Prop} {xs : List TX} {y : TX} (hn : n = xs.length) (h : kT.R 31 W base ok (.slice (some ⟨g, 0, none⟩) (n + 1) cap) (xs ++ [zTX]))
    (hM : kT.R 31 W base okp y.v y.kids) (hokp : ∀ k, okp k → ok k ∧ k ≠ g) :
    kT.R 31 (W.setCells g (n * 10) [.int .i64 y.f0, .int .i64 y.f1, .int .i64 y.f2.f0, .int .i64 y.f2.f1, .string y.f2.f2, .bool y.f2.f3, .string y.f3, .int .i64 y.f4, .string y.f5, y.v]) base ok (.slice (some ⟨g, 0, none⟩) (n + 1) cap) (xs ++ [y]) ∧
      W.grownBy (W.setCells g (n * 10) [.int .i64 y.f0, .int .i64 y.f1, .int .i64 y.f2.f0, .int .i64 y.f2.f1, .string y.f2.f2, .bool y.f2.f3, .string y.f3, .int .i64 y.f4, .string y.f5, y.v]) (some g) := by
  subst hn
  obtain ⟨_, _, hC⟩ := Kd.R_reads' h
  obtain ⟨ad, cc, e, hlen, hK, hcc⟩ := Kd.C_get hC zTX (xs.length : Int) (by omega) (by simp; omega)
  injection e with e
  subst e
  have hcc2 : ∀ j u, cc[j]? = some u → W.cell? ⟨g, ((xs.length : Nat) : Int).toNat * kT.sz + j, none⟩ = some u := by
    intro j u hu
    have h1 := hcc j u hu
    have e : Addr.add ⟨g, 0, none⟩ (((xs.length : Nat) : Int).toNat * kT.sz + j) = ⟨g, ((xs.length : Nat) : Int).toNat * kT.sz + j, none⟩ := by
      simp only [Addr.add]
      split
      · rename_i h; rw [h]
      · simp
    rw [e] at h1
    exact h1
  have hl10 : cc.length = 10 := hlen
  have := Kd.R_seg (d := kT) (x' := y) (j := 0) (seg := [.int .i64 y.f0, .int .i64 y.f1, .int .i64 y.f2.f0, .int .i64 y.f2.f1, .string y.f2.f2, .bool y.f2.f3, .string y.f3, .int .i64 y.f4, .string y.f5, y.v]) h (xs.length : Int) (by omega) (by omega) hlen hcc2 (by show 0 + 10 ≤ 10; omega)
    (by rw [List.take_zero, List.nil_append, List.drop_eq_nil_of_le (by rw [hl10]; show 10 ≤ 0 + 10; omega), List.append_nil]; exact kT_mkM W base okp y hM) hokp
  have hset : (xs ++ [zTX]).set ((xs.length : Nat) : Int).toNat y = xs ++ [y] := by
    rw [Int.toNat_natCast, List.set_append_right _ _ (Nat.le_refl _)]
    simp
  rw [hset, Int.toNat_natCast, Nat.add_zero] at this
  exact this

/-- The row's cells at its last element, before it is written. -/
theorem R_last_cells {W : World} {g cap base n : Nat} {ok : Nat → Prop} {xs : List TX} (hn : n = xs.length) (h : kT.R 31 W base ok (.slice (some ⟨g, 0, none⟩) (n + 1) cap) (xs ++ [zTX])) :
    ∃ cur, W.heap[g]? = some (.cells cur 31 (0, 0)) ∧ base ≤ g ∧ ok g ∧ ∀ j, j < 10 → ∃ u, W.cell? ⟨g, n * 10 + j, none⟩ = some u := by
  subst hn
  obtain ⟨inner, hl, ho⟩ := Kd.R_own h
  have hok := h.1 g rfl
  rcases ho with ⟨h1, _⟩ | ⟨g', cap', cur, hv, hb, hh, hnc, hcm, hsz, _⟩
  · exact absurd h1 (by simp)
  · injection hv with h1 _ h3
    injection h1 with h1
    injection h1 with h1
    subst h1
    subst h3
    refine ⟨cur, hh, hb, hok, fun j hj => ?_⟩
    rw [blk_cell hh]
    have hs : cur.size = cap * 10 := hsz
    rw [List.length_append, List.length_singleton] at hnc
    exact ⟨_, Array.getElem?_eq_getElem (by omega)⟩
end Go.Proofs.Ytgnifglolbfamaa.D
