/- Texts of the claim, merged in build order: QR, RA. -/
import Derived.Test.YtgnifglolbfamaaZAR
/- (*Shelves).answer: its walk. -/
set_option linter.unusedVariables false
set_option linter.unusedSimpArgs false
namespace Go.Proofs.Ytgnifglolbfamaa
open Go.RowKit Go.Proofs.YtgnifglolbfamaaW.PrintWords

theorem info63 : (Try.prog.info? 52).map (fun i => (i.zero, i.size, i.bytes)) = some (some (.slice none 0 0), 1, 24) := by kernel_rfl
theorem info64 : (Try.prog.info? 69).map (fun i => (i.zero, i.size, i.bytes)) = some (some (.slice none 0 0), 1, 24) := by kernel_rfl
theorem info73 : (Try.prog.info? 73).map (fun i => (i.zero, i.size, i.bytes)) = some (some (.agg #[.string ⟨#[]⟩, .string ⟨#[]⟩, .slice none 0 0]), 3, 56) := by kernel_rfl
theorem markN_one (i : Nat) : ∀ u ∈ markN i, u.oneCell' = true := by
  intro u hu
  simp only [markN, List.mem_cons, List.not_mem_nil, or_false] at hu
  rcases hu with rfl | rfl | rfl <;> rfl

/-- What is asked of a layout. -/
structure AnsIn (L : List Ent) (B0 : Nat) (es ss ns : List RE) (y : Lay) : Prop where
  N : (keys L).Nodup
  LB : ∀ b ∈ keys L, b < B0
  sub : ∀ E ∈ entL y, E ∈ L
  wf : WfL y
  nE : (gs (es ++ growL y)).Nodup
  nN : (gs (ns ++ negsOf y.l)).Nodup
  nS : (gs (ss ++ [stgRE y])).Nodup
  lenE : (es ++ growL y).length ≤ 1000000000
  lenN : (ns ++ negsOf y.l).length ≤ 1000000000
  lenS : (ss ++ [stgRE y]).length ≤ 1000000000
  few : y.l.length ≤ 8
  fewN : ∀ s ∈ y.l, s.n.2.2.length ≤ 8
  sF : exNL (rdH y.fin) ≤ 100000000000
  sS : ∀ s ∈ y.l, exNL (rdH s.b) ≤ 100000000000 ∧ exNL (rdH s.t) ≤ 100000000000 ∧ exNL (rdH s.c) ≤ 100000000000 ∧ ∀ g ∈ s.n.2.2, exNL (rdH g.c) ≤ 100000000000
section
variable {L : List Ent} {B0 : Nat} {es ss ns : List RE} {y : Lay}
theorem AnsIn.ents (h : AnsIn L B0 es ss ns y) {s : TS} (hs : s ∈ y.l) : ∀ E ∈ entS s, E ∈ L := fun E hE => h.sub E (List.mem_cons_of_mem _ (List.mem_append_right _ (List.mem_flatMap.2 ⟨s, hs, hE⟩)))
theorem AnsIn.finS (h : AnsIn L B0 es ss ns y) : ∀ E ∈ entH y.fin, E ∈ L := fun E hE => h.sub E (List.mem_cons_of_mem _ (List.mem_append_left _ hE))
theorem nodup_gs (es : List RE) (x : HX) (h : (gs (es ++ growH x)).Nodup) : (keys (entH x)).Nodup := by
  rw [gs_append, List.nodup_append] at h
  exact (gs_growH x).nodup_iff.1 h.2.1
/-- A part of the growth. -/
theorem pre_gs {a b c : List RE} (h : (gs a).Nodup) (e : a = b ++ c) : (gs b).Nodup := gs_head (e ▸ h)
theorem pre_len {a b c : List RE} {m : Nat} (h : a.length ≤ m) (e : a = b ++ c) : b.length ≤ m := by
  rw [e, List.length_append] at h; omega
theorem split_S {l : List TS} {i : Nat} (hi : i < l.length) : growSs l = growSs (l.take i) ++ growS l[i] ++ growSs (l.drop (i + 1)) := by
  unfold growSs
  conv => lhs; rw [← List.take_append_drop (i + 1) l, List.flatMap_append, List.take_succ_eq_append_getElem hi, List.flatMap_append]
  simp
theorem take_S {l : List TS} {i : Nat} (hi : i < l.length) : growSs (l.take (i + 1)) = growSs (l.take i) ++ growS l[i] := by
  unfold growSs
  rw [List.take_succ_eq_append_getElem hi, List.flatMap_append]
  simp
theorem split_N {l : List TG} {j : Nat} (hj : j < l.length) : growN l = growN (l.take j) ++ growH l[j].c ++ growN (l.drop (j + 1)) := by
  unfold growN
  conv => lhs; rw [← List.take_append_drop (j + 1) l, List.flatMap_append, List.take_succ_eq_append_getElem hj, List.flatMap_append]
  simp
theorem take_N {l : List TG} {j : Nat} (hj : j < l.length) : growN (l.take (j + 1)) = growN (l.take j) ++ growH l[j].c := by
  unfold growN
  rw [List.take_succ_eq_append_getElem hj, List.flatMap_append]
  simp
theorem split_ns {l : List TS} {i : Nat} (hi : i < l.length) : negsOf l = negsOf (l.take i) ++ [reN l[i].n] ++ negsOf (l.drop (i + 1)) := by
  unfold negsOf
  conv => lhs; rw [← List.take_append_drop (i + 1) l, List.map_append, List.take_succ_eq_append_getElem hi, List.map_append]
  rfl
theorem take_ns {l : List TS} {i : Nat} (hi : i < l.length) : negsOf (l.take (i + 1)) = negsOf (l.take i) ++ [reN l[i].n] := by
  unfold negsOf
  rw [List.take_succ_eq_append_getElem hi, List.map_append]
  rfl
end

set_option maxHeartbeats 16000000 in
set_option maxRecDepth 100000 in
theorem answer_any (L : List Ent) (G H B0 : Nat) (es ss ns : List RE) (y : Lay) (ad : Addr) (had : ad = ⟨y.S, 0, none⟩) (n : Nat) (hn : n = y.l.length) (w : World) (hA : AnsIn L B0 es ss ns y) (hS : ShOk w G H B0 es ss ns) (hL : AllOwn w L) :
    Calls Try.prog 20 #[.pointer (some ⟨H, 0, none⟩), .pointer (some ⟨G, 0, none⟩), .slice (some ad) n n, svT y.fin] w (AnsPost L G H B0 (es ++ growL y) (ss ++ [stgRE y]) (ns ++ negsOf y.l) w) := by
  have hfew := hA.few
  have hn8 : n ≤ 8 := by omega
  have hst0 : AnsSt L G H B0 w es ss ns w := ⟨hS, hL, Only.refl _ _⟩
  have hc0 := hst0.each hA.N y.fin hA.sF hA.wf.fin hA.finS (nodup_gs es _ (pre_gs (c := growSs y.l) hA.nE (by unfold growL; rw [List.append_assoc]))) hA.LB (pre_gs (c := growSs y.l) hA.nE (by unfold growL; rw [List.append_assoc])) (pre_len (c := growSs y.l) hA.lenE (by unfold growL; rw [List.append_assoc]))
  have HA := Lib.hid hA
  have HC0 := Lib.hid hc0
  have HAD := Lib.hid had
  have HN := Lib.hid hn
  clear hA hc0 had hn hS hL hst0 hfew
  generalize svT y.fin = vf at *
  go_enter Try.func20, Try.ntmps20
  go_wp2_with fail
  refine HC0.out.mono ?_
  rintro e W1 ⟨rfl, hst1⟩
  have HST1 := Lib.hid hst1
  clear hst1 HC0
  go_wp2_with fail
  go_loopw [8] (fun t8 wr => ∃ i : Nat, i ≤ n ∧ t8 = .int .i64 i ∧ Hid (AnsSt L G H B0 w (es ++ growH y.fin ++ growSs (y.l.take i)) ss (ns ++ negsOf (y.l.take i)) wr)) (fun t8 _ => n - (intOf t8).toNat)
  case atStart => exact ⟨0, by omega, rfl, Lib.hid (by rw [List.take_zero]; simpa [growSs, negsOf] using HST1.out)⟩
  case round =>
    obtain ⟨i, hi, rfl, hst⟩ := hrel
    generalize wr = w2 at *
    by_cases hlt : i < n
    · have i1 : (0 : Int) ≤ (i : Int) := by omega
      have i2 : (i : Int) < (n : Int) := by omega
      have hil : i < y.l.length := by have := HN.out; omega
      have hsm : y.l[i] ∈ y.l := List.getElem_mem hil
      have HAT := Lib.hid (fun (w : World) (hL : AllOwn w L) => stage_at hL HA.out.sub HAD.out i hil)
      have HEN := Lib.hid (HA.out.ents hsm)
      have HWF := Lib.hid (HA.out.wf.l _ hsm)
      have HSS := Lib.hid (HA.out.sS _ hsm)
      have HFN := Lib.hid (HA.out.fewN _ hsm)
      have HSP := Lib.hid (split_S hil)
      have HTK := Lib.hid (take_S hil)
      have HNP := Lib.hid (split_ns hil)
      have HNK := Lib.hid (take_ns hil)
      generalize y.l[i] = s at *
      clear hil hsm
      obtain ⟨e3, e4, e5, e6⟩ := HAT.out w2 hst.out.own
      have hge : es ++ growL y = (es ++ growH y.fin ++ growSs (y.l.take i)) ++ growH s.b ++ (growH s.t ++ growH s.c ++ growN s.n.2.2 ++ growSs (y.l.drop (i + 1))) := by
        unfold growL; rw [HSP.out]; unfold growS; simp only [List.append_assoc]
      have HC1 := Lib.hid (hst.out.each HA.out.N s.b HSS.out.1 HWF.out.b (fun E hE => HEN.out E (entS_b E hE)) (nodup_gs _ _ (pre_gs HA.out.nE hge)) HA.out.LB (pre_gs HA.out.nE hge) (pre_len HA.out.lenE hge))
      have HGE := Lib.hid hge
      clear hge
      go_wp2_with fail
      refine HC1.out.mono ?_
      rintro e W2 ⟨rfl, hst2⟩
      have HST2 := Lib.hid hst2
      clear hst2 HC1 e3 e4 e5 e6
      obtain ⟨e3, e4, e5, e6⟩ := HAT.out W2 HST2.out.own
      have hge : es ++ growL y = (es ++ growH y.fin ++ growSs (y.l.take i) ++ growH s.b) ++ growH s.t ++ (growH s.c ++ growN s.n.2.2 ++ growSs (y.l.drop (i + 1))) := by
        rw [HGE.out]; simp only [List.append_assoc]
      have HC2 := Lib.hid (HST2.out.each HA.out.N s.t HSS.out.2.1 HWF.out.t (fun E hE => HEN.out E (entS_t E hE)) (nodup_gs _ _ (pre_gs HA.out.nE hge)) HA.out.LB (pre_gs HA.out.nE hge) (pre_len HA.out.lenE hge))
      clear hge
      go_wp2_with fail
      refine HC2.out.mono ?_
      rintro e W3 ⟨rfl, hst3⟩
      have HST3 := Lib.hid hst3
      clear hst3 HC2 e3 e4 e5 e6
      obtain ⟨e3, e4, e5, e6⟩ := HAT.out W3 HST3.out.own
      have hge : es ++ growL y = (es ++ growH y.fin ++ growSs (y.l.take i) ++ growH s.b ++ growH s.t) ++ growH s.c ++ (growN s.n.2.2 ++ growSs (y.l.drop (i + 1))) := by
        rw [HGE.out]; simp only [List.append_assoc]
      have HC3 := Lib.hid (HST3.out.each HA.out.N s.c HSS.out.2.2.1 HWF.out.c (fun E hE => HEN.out E (entS_c E hE)) (nodup_gs _ _ (pre_gs HA.out.nE hge)) HA.out.LB (pre_gs HA.out.nE hge) (pre_len HA.out.lenE hge))
      clear hge
      go_wp2_with fail
      refine HC3.out.mono ?_
      rintro e W4 ⟨rfl, hst4⟩
      have HST4 := Lib.hid hst4
      clear hst4 HC3 e3 e4 e5 e6
      obtain ⟨e3, e4, e5, e6⟩ := HAT.out W4 HST4.out.own
      obtain ⟨r, hr⟩ : ∃ r, r = reN s.n := ⟨_, rfl⟩
      obtain ⟨AN, hAN⟩ : ∃ AN, AN = s.n.1.map (fun g => (⟨g, 0, none⟩ : Addr)) := ⟨_, rfl⟩
      obtain ⟨nl, hnl⟩ : ∃ nl, nl = s.n.2.2.length := ⟨_, rfl⟩
      obtain ⟨nc, hnc⟩ : ∃ nc, nc = s.n.2.1 := ⟨_, rfl⟩
      rw [show svT s.n = .slice AN nl nc by rw [hAN, hnl, hnc]; rfl] at e3
      have hnl8 : nl ≤ 8 := by rw [hnl]; exact HFN.out
      have HR := Lib.hid hr
      have HAN := Lib.hid hAN
      have HNL := Lib.hid hnl
      have HNC := Lib.hid hnc
      clear hr hAN hnl hnc
      go_wp2_with fail
      go_loopw [10] (fun t10 wr => ∃ j : Nat, j ≤ nl ∧ t10 = .int .i64 j ∧ Hid (AnsSt L G H B0 w (es ++ growH y.fin ++ growSs (y.l.take i) ++ growH s.b ++ growH s.t ++ growH s.c ++ growN (s.n.2.2.take j)) ss (ns ++ negsOf (y.l.take i)) wr)) (fun t10 _ => nl - (intOf t10).toNat)
      case atStart => exact ⟨0, by omega, rfl, Lib.hid (by rw [List.take_zero]; simpa [growN] using HST4.out)⟩
      case round =>
        obtain ⟨j, hj, rfl, hstj⟩ := hrel
        generalize wr = w5 at *
        by_cases hjl : j < nl
        · have hjl' : j < s.n.2.2.length := by have := HNL.out; omega
          have hcm : s.n.2.2[j] ∈ s.n.2.2 := List.getElem_mem hjl'
          obtain ⟨ad2, had2, e2⟩ := neg_at HWF.out.n (hstj.out.own.sub (fun E hE => HEN.out E (entS_n E (List.mem_append_left _ hE)))) j hjl'
          have hAa : AN = some ad2 := HAN.out.trans had2
          subst hAa
          have HSP2 := Lib.hid (split_N hjl')
          have HTK2 := Lib.hid (take_N hjl')
          have HWC := Lib.hid (HWF.out.n.g _ hcm)
          have HSC := Lib.hid (HSS.out.2.2.2 _ hcm)
          have HEC := Lib.hid (fun E hE => HEN.out E (entS_n E (entN_c hcm E hE)))
          generalize s.n.2.2[j] = g at *
          clear hjl' hcm had2
          have hge : es ++ growL y = (es ++ growH y.fin ++ growSs (y.l.take i) ++ growH s.b ++ growH s.t ++ growH s.c ++ growN (s.n.2.2.take j)) ++ growH g.c ++ (growN (s.n.2.2.drop (j + 1)) ++ growSs (y.l.drop (i + 1))) := by
            rw [HGE.out, HSP2.out]; simp only [List.append_assoc]
          have HC5 := Lib.hid (hstj.out.each HA.out.N g.c HSC.out HWC.out HEC.out (nodup_gs _ _ (pre_gs HA.out.nE hge)) HA.out.LB (pre_gs HA.out.nE hge) (pre_len HA.out.lenE hge))
          have i3 : (0 : Int) ≤ (j : Int) := by omega
          have i4 : (j : Int) < (nl : Int) := by omega
          clear hge
          go_wp2_with fail
          refine HC5.out.mono ?_
          rintro e W6 ⟨rfl, hst6⟩
          have HST6 := Lib.hid hst6
          clear hst6 HC5
          go_wp2_with fail
          go_roundw
          case rel => exact ⟨j + 1, by omega, by go_num, Lib.hid (by rw [HTK2.out, ← List.append_assoc]; exact HST6.out)⟩
          case measure => simp [intOf]; omega
        · obtain rfl : j = nl := by omega
          have htk : s.n.2.2.take j = s.n.2.2 := List.take_of_length_le (by have := HNL.out; omega)
          have hst6 := hstj.out
          rw [htk] at hst6
          have HST6 := Lib.hid hst6
          obtain ⟨vS, vN, vF, vA, hIn⟩ := hst6.sh
          obtain ⟨nn, hnn⟩ : ∃ nn, nn = (ns ++ negsOf (y.l.take i)).length := ⟨_, rfl⟩
          have hnb : nn ≤ 1000000000 := by rw [hnn]; exact pre_len (c := [reN s.n] ++ negsOf (y.l.drop (i + 1))) HA.out.lenN (by rw [HNP.out]; simp only [List.append_assoc])
          have hrN := hIn.at_.hN
          have hrA := hIn.at_.hA
          rw [← hnn] at hrN hrA
          obtain ⟨A1, c1, rfl, ha1, ha2, -, -⟩ := own_shape hrN
          obtain ⟨A2, c2, rfl, hb1, hb2, -, -⟩ := own_shape hrA
          have hX : w5.ownsRow 0 73 3 (.slice r.A r.n r.cap) r.n (s.n.2.2.flatMap cellsG) := by
            rw [HR.out]
            exact own_N HWF.out.n (hst6.own.sub (fun E hE => HEN.out E (entS_n E (List.mem_append_left _ hE))))
          have hrA' : r.A = AN := by rw [HR.out, HAN.out]; rfl
          have hrn : r.n = j := by rw [HR.out, HNL.out]; rfl
          have hrc : r.cap = nc := by rw [HR.out, HNC.out]; rfl
          obtain ⟨q, hq⟩ : ∃ q, q = r.rm := ⟨_, rfl⟩
          have hq1 : j + q ≤ nc := by
            obtain ⟨_, _, he, h1, _⟩ := own_shape hX
            injection he with _ _ e3
            rw [hq]; unfold RE.rm; omega
          have hcm : nc ≤ 9223372036854775807 := by
            obtain ⟨_, _, he, _, h1, _⟩ := own_shape hX
            injection he with _ _ e3
            omega
          have hq2 : q ≤ 70000 := by rw [hq]; unfold RE.rm; omega
          have hq3 := Lib.hid (show j + q = nc ∨ q = 70000 by rw [hq]; unfold RE.rm; omega)
          have HX := Lib.hid hX
          have HIN := Lib.hid hIn
          have HRA := Lib.hid hrA'
          have HRN := Lib.hid hrn
          have HRC := Lib.hid hrc
          have HQ := Lib.hid hq
          have HNN := Lib.hid hnn
          have HRN1 := Lib.hid hrN
          have HRA1 := Lib.hid hrA
          clear hX hIn hrA' hrn hrc hq hnn hrN hrA hst6 htk hstj
          go_wp2_with fail
          go_loopw [11, 12] (fun t11 t12 wr => ∃ k m : Nat, k ≤ q ∧ t12 = .int .i64 k ∧ Hid (m = j + k) ∧ t11 = .slice AN m nc ∧ Hid (wr.ownsRow 0 73 3 (.slice AN m nc) m (s.n.2.2.flatMap cellsG ++ reps (markN nn) k)) ∧ Hid (Only (fun b => r.g = some b) w5 wr)) (fun _ t12 _ => q - (intOf t12).toNat)
          case atStart => exact ⟨0, j, by omega, rfl, Lib.hid rfl, rfl, Lib.hid (by rw [reps_zero, List.append_nil, ← HRA.out, ← HRC.out, ← HRN.out]; exact HX.out), Lib.hid (Only.refl _ _)⟩
          case round =>
            obtain ⟨k, m, hk, rfl, hm, rfl, hO, hOn⟩ := hrel
            generalize wr = w6 at *
            have hrT : ∀ b, r.g = some b → ∃ c, w5.heap[b]? = some (.cells c 73 (0, 0)) := fun b hb => own_typed HX.out b (by rw [RE.own_block]; exact hb)
            have hH6 := hOn.out.blk HIN.out.at_.hH (fun hb => absurd (two_types ⟨_, HIN.out.at_.hH⟩ (hrT H hb)) (by decide))
            have HRT := Lib.hid hrT
            have HH6 := Lib.hid hH6
            have f1 := (blk_cell hH6 1).trans rfl
            clear hrT hH6
            by_cases hkl : k < q
            · have d1 : decide ((k : Int) < 70000) = true := decide_eq_true (by omega)
              have d3 : decide (m < nc) = true := decide_eq_true (by have := hm.out; omega)
              have hmc : m < nc := by have := hm.out; omega
              go_wp2_with fail
              refine (text_any nn (by omega) w6).mono ?_
              rintro e W7 ⟨rfl, hb7⟩
              have HO7 := Lib.hid ((Only.of_below (S := fun _ => False) hb7).own hO.out (fun _ _ h => h))
              have HB7 := Lib.hid hb7
              clear hb7
              go_wp2_with (at_builtin; go_must (refine app_in (W := W7) W7.heap.size (by rfl) (by rfl) _ _ 69 73 _ 3 56 (by rfl) Try.underlying69 info73 0 AN m nc _ (markN nn) HO7.out hmc (by rfl) (by rfl) (by rfl) (markN_one nn) ?_))
              intro w8 hO8 hOn8
              go_wp2_with fail
              go_roundw
              case rel =>
                refine ⟨k + 1, m + 1, by omega, by go_num, Lib.hid (by have := hm.out; omega), rfl, Lib.hid (by rw [reps_succ]; exact hO8.out), Lib.hid ((hOn.out.same (Only.of_below HB7.out)).same (hOn8.out.mono (fun b _ hb => ?_)))⟩
                rw [← HRA.out, RE.own_block] at hb
                exact hb
              case measure => simp [intOf]; omega
            · obtain rfl : k = q := by omega
              by_cases hk7 : k < 70000
              · have d1 : decide ((k : Int) < 70000) = true := decide_eq_true (by omega)
                have d2 : decide (m < nc) = false := decide_eq_false (by have := hq3.out; have := hm.out; omega)
                have hl1 : (nn + 1) * 24 ≤ 140737488355328 := by omega
                have hl2 : (nn + 1) * 8 ≤ 140737488355328 := by omega
                have HOL := Lib.hid (hOn.out.own HRN1.out (fun b hb hs => absurd (two_types (own_typed HRN1.out b hb) (HRT.out b hs)) (by decide)))
                have HOF := Lib.hid (hOn.out.own HRA1.out (fun b hb hs => absurd (two_types (own_typed HRA1.out b hb) (HRT.out b hs)) (by decide)))
                go_wp2_with (at_builtin; go_must (refine app_one (W := w6) w6.heap.size (by rfl) (by rfl) _ _ 64 69 _ 24 (by rfl) Try.underlying64 info64 (by rfl) (by decide) A1 nn c1 _ (.slice AN m nc) HOL.out (by rfl) (by rfl) (by rfl) hl1 ?_))
                intro A1' c1' w7 hO7 hOn7 hB7
                have HG7 := Lib.hid (hOn7.out.blk HH6.out (fun hk => absurd (two_types (own_typed HOL.out H hk) ⟨_, HH6.out⟩) (by decide)))
                clear f1 d1
                have y1 := (blk_cell HG7.out 1).trans rfl
                have y3 := (blk_cell HG7.out 3).trans rfl
                have z1 := blk_frozen HG7.out 1
                have hW7 : (w7.setCell ⟨H, 1, none⟩ (.slice A1' (nn + 1) c1')).heap.size = w7.heap.size := by simp [World.setCell]
                have hOF7 := hOn7.out.own HOF.out (fun b hb hs => absurd (two_types (own_typed HOF.out b hb) (own_typed HOL.out b hs)) (by decide))
                have HOF8 := Lib.hid ((Only.setCell (S := fun b => b = H) (w := w7) ⟨H, 1, none⟩ (.slice A1' (nn + 1) c1') rfl).own hOF7 (fun b hb hs => by
                  have h1 := own_typed hOF7 b hb
                  rw [hs] at h1
                  exact absurd (two_types h1 ⟨_, HG7.out⟩) (by decide)))
                clear hOF7
                have HG8 : Hid ((w7.setCell ⟨H, 1, none⟩ (.slice A1' (nn + 1) c1')).heap[H]? = some (.cells #[vS, .slice A1' (nn + 1) c1', vF, .slice A2 nn c2] 66 (0, 0))) := Lib.hid (blk_put HG7.out 1 _ rfl)
                have HS8 := Lib.hid hW7
                clear hW7
                go_wp2_with (at_builtin; go_must (refine app_one (W := w7.setCell ⟨H, 1, none⟩ (.slice A1' (nn + 1) c1')) w7.heap.size HS8.out (by rfl) _ _ 59 3 _ 8 (by rfl) Try.underlying59 info59 (by rfl) (by decide) A2 nn c2 _ (.int .i64 j) HOF8.out (by rfl) (by rfl) (by rfl) hl2 ?_))
                intro A2' c2' w9 hO9 hOn9 hB9
                have HG9 := Lib.hid (hOn9.out.blk HG8.out (fun hk => absurd (two_types (own_typed HOF8.out H hk) ⟨_, HG8.out⟩) (by decide)))
                clear y1 y3 z1
                have y3 := (blk_cell HG9.out 3).trans rfl
                have z3 := blk_frozen HG9.out 3
                go_wp2_with fail
                have HEND := Lib.hid (neg_end HA.out.N HIN.out HNN.out HST6.out.own HA.out.LB HX.out (fun b hb => HEN.out _ (entS_n _ (List.mem_append_left _ (by
                    rw [HR.out] at hb ⊢
                    rw [show s.n.1 = some b from hb]
                    exact List.mem_singleton.2 rfl)))) (gs_last (by
                    rw [HR.out]
                    exact pre_gs (c := negsOf (y.l.drop (i + 1))) HA.out.nN (by rw [HNP.out]; simp only [List.append_assoc]))) hOn.out (by rw [HRA.out, HRN.out, HRC.out, ← HQ.out, ← hm.out]; exact hO.out) hOn7.out (by rw [HRA.out, HRN.out, HRC.out, ← HQ.out, ← hm.out, List.map_append, List.append_assoc]; exact hO7.out) hB7.out hOn9.out (by rw [HRN.out, List.map_append, List.append_assoc]; exact hO9.out) hB9.out)
                go_roundw
                case rel =>
                  refine ⟨i + 1, by omega, by go_num, Lib.hid ?_⟩
                  rw [HTK.out, HNK.out]
                  have h := HST6.out.step HEND.out.1 HEND.out.2.1 HEND.out.2.2
                  unfold growS
                  simp only [List.append_assoc] at h ⊢
                  rw [HR.out] at h
                  exact h
                case measure => simp [intOf]; omega
              · have d1 : decide ((k : Int) < 70000) = false := decide_eq_false (by omega)
                have hl1 : (nn + 1) * 24 ≤ 140737488355328 := by omega
                have hl2 : (nn + 1) * 8 ≤ 140737488355328 := by omega
                have HOL := Lib.hid (hOn.out.own HRN1.out (fun b hb hs => absurd (two_types (own_typed HRN1.out b hb) (HRT.out b hs)) (by decide)))
                have HOF := Lib.hid (hOn.out.own HRA1.out (fun b hb hs => absurd (two_types (own_typed HRA1.out b hb) (HRT.out b hs)) (by decide)))
                go_wp2_with (at_builtin; go_must (refine app_one (W := w6) w6.heap.size (by rfl) (by rfl) _ _ 64 69 _ 24 (by rfl) Try.underlying64 info64 (by rfl) (by decide) A1 nn c1 _ (.slice AN m nc) HOL.out (by rfl) (by rfl) (by rfl) hl1 ?_))
                intro A1' c1' w7 hO7 hOn7 hB7
                have HG7 := Lib.hid (hOn7.out.blk HH6.out (fun hk => absurd (two_types (own_typed HOL.out H hk) ⟨_, HH6.out⟩) (by decide)))
                clear f1 d1
                have y1 := (blk_cell HG7.out 1).trans rfl
                have y3 := (blk_cell HG7.out 3).trans rfl
                have z1 := blk_frozen HG7.out 1
                have hW7 : (w7.setCell ⟨H, 1, none⟩ (.slice A1' (nn + 1) c1')).heap.size = w7.heap.size := by simp [World.setCell]
                have hOF7 := hOn7.out.own HOF.out (fun b hb hs => absurd (two_types (own_typed HOF.out b hb) (own_typed HOL.out b hs)) (by decide))
                have HOF8 := Lib.hid ((Only.setCell (S := fun b => b = H) (w := w7) ⟨H, 1, none⟩ (.slice A1' (nn + 1) c1') rfl).own hOF7 (fun b hb hs => by
                  have h1 := own_typed hOF7 b hb
                  rw [hs] at h1
                  exact absurd (two_types h1 ⟨_, HG7.out⟩) (by decide)))
                clear hOF7
                have HG8 : Hid ((w7.setCell ⟨H, 1, none⟩ (.slice A1' (nn + 1) c1')).heap[H]? = some (.cells #[vS, .slice A1' (nn + 1) c1', vF, .slice A2 nn c2] 66 (0, 0))) := Lib.hid (blk_put HG7.out 1 _ rfl)
                have HS8 := Lib.hid hW7
                clear hW7
                go_wp2_with (at_builtin; go_must (refine app_one (W := w7.setCell ⟨H, 1, none⟩ (.slice A1' (nn + 1) c1')) w7.heap.size HS8.out (by rfl) _ _ 59 3 _ 8 (by rfl) Try.underlying59 info59 (by rfl) (by decide) A2 nn c2 _ (.int .i64 j) HOF8.out (by rfl) (by rfl) (by rfl) hl2 ?_))
                intro A2' c2' w9 hO9 hOn9 hB9
                have HG9 := Lib.hid (hOn9.out.blk HG8.out (fun hk => absurd (two_types (own_typed HOF8.out H hk) ⟨_, HG8.out⟩) (by decide)))
                clear y1 y3 z1
                have y3 := (blk_cell HG9.out 3).trans rfl
                have z3 := blk_frozen HG9.out 3
                go_wp2_with fail
                have HEND := Lib.hid (neg_end HA.out.N HIN.out HNN.out HST6.out.own HA.out.LB HX.out (fun b hb => HEN.out _ (entS_n _ (List.mem_append_left _ (by
                    rw [HR.out] at hb ⊢
                    rw [show s.n.1 = some b from hb]
                    exact List.mem_singleton.2 rfl)))) (gs_last (by
                    rw [HR.out]
                    exact pre_gs (c := negsOf (y.l.drop (i + 1))) HA.out.nN (by rw [HNP.out]; simp only [List.append_assoc]))) hOn.out (by rw [HRA.out, HRN.out, HRC.out, ← HQ.out, ← hm.out]; exact hO.out) hOn7.out (by rw [HRA.out, HRN.out, HRC.out, ← HQ.out, ← hm.out, List.map_append, List.append_assoc]; exact hO7.out) hB7.out hOn9.out (by rw [HRN.out, List.map_append, List.append_assoc]; exact hO9.out) hB9.out)
                go_roundw
                case rel =>
                  refine ⟨i + 1, by omega, by go_num, Lib.hid ?_⟩
                  rw [HTK.out, HNK.out]
                  have h := HST6.out.step HEND.out.1 HEND.out.2.1 HEND.out.2.2
                  unfold growS
                  simp only [List.append_assoc] at h ⊢
                  rw [HR.out] at h
                  exact h
                case measure => simp [intOf]; omega
    · obtain rfl : i = n := by omega
      have htk : y.l.take i = y.l := List.take_of_length_le (by have := HN.out; omega)
      have hst6 := hst.out
      rw [htk] at hst6
      have HST6 := Lib.hid hst6
      obtain ⟨vS, vN, vF, vA, hIn⟩ := hst6.sh
      obtain ⟨nn, hnn⟩ : ∃ nn, nn = ss.length := ⟨_, rfl⟩
      have hnb : nn ≤ 1000000000 := by rw [hnn]; exact pre_len (c := [stgRE y]) HA.out.lenS rfl
      have hrN := hIn.at_.hS
      have hrA := hIn.at_.hF
      rw [← hnn] at hrN hrA
      obtain ⟨A1, c1, rfl, ha1, ha2, -, -⟩ := own_shape hrN
      obtain ⟨A2, c2, rfl, hb1, hb2, -, -⟩ := own_shape hrA
      have HIN := Lib.hid hIn
      have HNN := Lib.hid hnn
      have HOL := Lib.hid hrN
      have HOF := Lib.hid hrA
      have HH6 := Lib.hid hIn.at_.hH
      clear hIn hnn hrN hrA hst6 htk
      go_wp2_with fail
      go_loopw [13, 14] (fun t13 t14 wr => t13 = .slice (some ad) i i ∧ t14 = .int .i64 0 ∧ Hid (wr = w2)) (fun _ _ _ => 0)
      case atStart => exact ⟨rfl, rfl, Lib.hid rfl⟩
      case round =>
        obtain ⟨rfl, rfl, hwr⟩ := hrel
        have hwr2 := hwr.out.symm
        clear hwr
        subst hwr2
        have f0 := (blk_cell HH6.out 0).trans rfl
        have hl1 : (nn + 1) * 24 ≤ 140737488355328 := by omega
        have hl2 : (nn + 1) * 8 ≤ 140737488355328 := by omega
        have d2 : decide (i < i) = false := decide_eq_false (by omega)
        go_wp2_with (at_builtin; go_must (refine app_one (W := w2) w2.heap.size (by rfl) (by rfl) _ _ 63 52 _ 24 (by rfl) Try.underlying63 info63 (by rfl) (by decide) A1 nn c1 _ (.slice (some ad) i i) HOL.out (by rfl) (by rfl) (by rfl) hl1 ?_))
        intro A1' c1' w7 hO7 hOn7 hB7
        have HG7 := Lib.hid (hOn7.out.blk HH6.out (fun hk => absurd (two_types (own_typed HOL.out H hk) ⟨_, HH6.out⟩) (by decide)))
        clear f0
        have y0 := (blk_cell HG7.out 0).trans rfl
        have y2 := (blk_cell HG7.out 2).trans rfl
        have z0 := blk_frozen HG7.out 0
        have hW7 : (w7.setCell ⟨H, 0, none⟩ (.slice A1' (nn + 1) c1')).heap.size = w7.heap.size := by simp [World.setCell]
        have hOF7 := hOn7.out.own HOF.out (fun b hb hs => absurd (two_types (own_typed HOF.out b hb) (own_typed HOL.out b hs)) (by decide))
        have HOF8 := Lib.hid ((Only.setCell (S := fun b => b = H) (w := w7) ⟨H, 0, none⟩ (.slice A1' (nn + 1) c1') rfl).own hOF7 (fun b hb hs => by
          have h1 := own_typed hOF7 b hb
          rw [hs] at h1
          exact absurd (two_types h1 ⟨_, HG7.out⟩) (by decide)))
        clear hOF7
        have HG8 : Hid ((w7.setCell ⟨H, 0, none⟩ (.slice A1' (nn + 1) c1')).heap[H]? = some (.cells #[.slice A1' (nn + 1) c1', vN, .slice A2 nn c2, vA] 66 (0, 0))) := Lib.hid (blk_put HG7.out 0 _ rfl)
        have HS8 := Lib.hid hW7
        clear hW7
        go_wp2_with (at_builtin; go_must (refine app_one (W := w7.setCell ⟨H, 0, none⟩ (.slice A1' (nn + 1) c1')) w7.heap.size HS8.out (by rfl) _ _ 59 3 _ 8 (by rfl) Try.underlying59 info59 (by rfl) (by decide) A2 nn c2 _ (.int .i64 i) HOF8.out (by rfl) (by rfl) (by rfl) hl2 ?_))
        intro A2' c2' w9 hO9 hOn9 hB9
        have HG9 := Lib.hid (hOn9.out.blk HG8.out (fun hk => absurd (two_types (own_typed HOF8.out H hk) ⟨_, HG8.out⟩) (by decide)))
        clear y0 y2 z0
        have y2 := (blk_cell HG9.out 2).trans rfl
        have z2 := blk_frozen HG9.out 2
        go_wp2_with fail
        go_end0
        have hrm : (stgRE y).rm = 0 := by unfold RE.rm stgRE; simp
        have hv : (Value.slice (stgRE y).A ((stgRE y).n + (stgRE y).rm) (stgRE y).cap) = .slice (some ad) i i := by rw [hrm, HAD.out, HN.out]; rfl
        have hX : w2.ownsRow 0 71 7 (.slice (stgRE y).A (stgRE y).n (stgRE y).cap) (stgRE y).n (y.l.flatMap cellsS) := HST6.out.own _ (HA.out.sub _ List.mem_cons_self)
        have HEND := stage_end HA.out.N HIN.out HNN.out HST6.out.own HA.out.LB hX (fun b hb => by
          have hb : y.S = b := by simpa [stgRE] using hb
          subst hb
          exact HA.out.sub _ List.mem_cons_self) (gs_last HA.out.nS) (Only.refl _ _) (by rw [hrm, reps_zero, List.append_nil]; exact hX) hOn7.out (by rw [hv]; exact hO7.out) hB7.out hOn9.out (by rw [show (stgRE y).n = i from HN.out.symm]; exact hO9.out) hB9.out
        have h := HST6.out.step HEND.1 HEND.2.1 HEND.2.2
        refine ⟨rfl, ?_, h.own, h.only⟩
        have h1 := h.sh
        unfold growL
        rw [← List.append_assoc]
        exact h1
end Go.Proofs.Ytgnifglolbfamaa

/- A layout that was answered, told once for all: LayOk; two of them. -/
set_option linter.unusedVariables false
set_option linter.unusedSimpArgs false
namespace Go.Proofs.Ytgnifglolbfamaa
open Go.RowKit Go.Proofs.YtgnifglolbfamaaW.PrintWords

theorem stA_onto (cs : List Cp) (s : Nat) : ∀ k, k ≤ cs.length → s < stA cs k → ∃ i, i < k ∧ negB cs i = false ∧ stA cs i = s := by
  intro k
  induction k with
  | zero => intro _ h; unfold stA at h; rw [List.take_zero] at h; simp [stg] at h
  | succ k ih =>
    intro hk h
    rw [stA_succ cs k (by omega)] at h
    by_cases h1 : s < stA cs k
    · obtain ⟨i, h2, h3⟩ := ih (by omega) h1
      exact ⟨i, by omega, h3⟩
    · cases hn : negB cs k with
      | true => rw [hn] at h; simp at h; omega
      | false => rw [hn] at h; simp at h; exact ⟨k, by omega, hn, by omega⟩
def HT (cs : List Cp) (T U : Nat → ByteArray) (Pl : Nat → Bool) : Prop := ∀ i, i < cs.length → negB cs i = false → T (stA cs i) = (cpA cs i).f2 ∧ U (stA cs i) = (cpA cs i).f3 ∧ Pl (stA cs i) = (cpA cs i).f1
theorem HT.same {cs : List Cp} {T U T' U' : Nat → ByteArray} {Pl Pl' : Nat → Bool} (h : HT cs T U Pl) (h' : HT cs T' U' Pl') (L : Nat → Nat → List Ex) : stagesL cs T U Pl L = stagesL cs T' U' Pl' L := by
  unfold stagesL
  refine List.map_congr_left (fun s hs => ?_)
  rw [List.mem_range] at hs
  obtain ⟨i, h1, h2, h3⟩ := stA_onto cs s cs.length (Nat.le_refl _) (by rw [stA_all]; exact hs)
  obtain ⟨a1, a2, a3⟩ := h i h1 h2
  obtain ⟨b1, b2, b3⟩ := h' i h1 h2
  rw [h3] at a1 a2 a3 b1 b2 b3
  rw [a1, a2, a3, b1, b2, b3]
theorem addP_ex (L : Nat → Nat → List Ex) (k n : Nat) (x : Ex) (B : Nat) (h : ∀ k i, exNL (L k i) ≤ B) : ∀ k' i', exNL (addP L k n x k' i') ≤ B + exN x := by
  intro k' i'
  unfold addP upd2
  split
  · rw [exNL_append]; have := h k (plI k n); simp [exNL]; omega
  · have := h k' i'; omega
theorem placeL_ex (cs : List Cp) (ws : List Ex) : ∀ k i, exNL (placeL cs ws k i) ≤ 2 * exNL ws := by
  have : ∀ (ws : List Ex) (L : Nat → Nat → List Ex) (B : Nat), (∀ k i, exNL (L k i) ≤ B) → ∀ k i, exNL (ws.foldl (placeStep cs) L k i) ≤ B + 2 * exNL ws := by
    intro ws
    induction ws with
    | nil => intro L B h k i; exact h k i
    | cons x ws ih =>
      intro L B h k i
      have hs : ∀ k i, exNL (placeStep cs L x k i) ≤ B + 2 * exN x := by
        intro k' i'
        unfold placeStep
        split
        · have := addP_ex _ 1 (anchorOf cs (refsOf x)).2.1.toNat x (B + exN x) (addP_ex L (anchorOf cs (refsOf x)).1.toNat (anchorOf cs (refsOf x)).2.1.toNat x B h) k' i'; omega
        · have := addP_ex L (anchorOf cs (refsOf x)).1.toNat (anchorOf cs (refsOf x)).2.1.toNat x B h k' i'; omega
      have := ih (placeStep cs L x) (B + 2 * exN x) hs k i
      simp only [List.foldl_cons, exNL]
      omega
  intro k i
  have := this ws (fun _ _ => []) 0 (by simp [exNL]) k i
  unfold placeL
  omega

structure LayOk (w : World) (base : Nat) (cs : List Cp) (ws : List Ex) (y : Lay) : Prop where
  own : AllOwn w (entL y)
  nd : (keys (entL y)).Nodup
  ge : ∀ b ∈ keys (entL y), base ≤ b
  wf : WfL y
  len : y.l.length = stg cs
  few : cs.length ≤ 8
  rd : ∃ T U Pl, HT cs T U Pl ∧ y.l.map sgT = stagesL cs T U Pl (placeL cs ws)
  fin : rdH y.fin = placeL cs ws 5 0
theorem LayOk.only {w w' : World} {base : Nat} {cs : List Cp} {ws : List Ex} {y : Lay} {S : Nat → Prop} (h : LayOk w base cs ws y) (ho : Only S w w') (hn : ∀ b ∈ keys (entL y), ¬ S b) : LayOk w' base cs ws y :=
  ⟨h.own.only ho hn, h.nd, h.ge, h.wf, h.len, h.few, h.rd, h.fin⟩
theorem LayOk.below {w w' : World} {base : Nat} {cs : List Cp} {ws : List Ex} {y : Lay} (h : LayOk w base cs ws y) (hb : Below w.heap.size w w') : LayOk w' base cs ws y := h.only (Only.of_below (S := fun _ => False) hb) (fun _ _ h => h)
theorem LayOk.same {w w' : World} {base base' : Nat} {cs : List Cp} {ws : List Ex} {y y' : Lay} (h : LayOk w base cs ws y) (h' : LayOk w' base' cs ws y') : y'.l.map sgT = y.l.map sgT ∧ rdH y'.fin = rdH y.fin := by
  obtain ⟨T, U, Pl, h1, h2⟩ := h.rd
  obtain ⟨T', U', Pl', h1', h2'⟩ := h'.rd
  exact ⟨by rw [h2, h2', h1.same h1'], by rw [h.fin, h'.fin]⟩
theorem LayOk.stage {w : World} {base : Nat} {cs : List Cp} {ws : List Ex} {y : Lay} (h : LayOk w base cs ws y) : ∀ s ∈ y.l, ∃ i, s.n.2.2.map ngT = negsL cs (placeL cs ws) i ∧ rdH s.b = placeL cs ws 1 i ∧ rdH s.t = placeL cs ws 2 i ∧ rdH s.c = placeL cs ws 3 i := by
  intro s hs
  obtain ⟨T, U, Pl, _, h2⟩ := h.rd
  have hm : sgT s ∈ y.l.map sgT := List.mem_map.2 ⟨s, hs, rfl⟩
  rw [h2] at hm
  unfold stagesL at hm
  obtain ⟨i, _, hi⟩ := List.mem_map.1 hm
  unfold sgT at hi
  injection hi with _ _ _ e1 e2 e3 e4
  exact ⟨i, e1.symm, e2.symm, e3.symm, e4.symm⟩
theorem LayOk.sizes {w : World} {base : Nat} {cs : List Cp} {ws : List Ex} {y : Lay} (h : LayOk w base cs ws y) : exNL (rdH y.fin) ≤ 2 * exNL ws ∧ ∀ s ∈ y.l, s.n.2.2.length ≤ 8 ∧ exNL (rdH s.b) ≤ 2 * exNL ws ∧ exNL (rdH s.t) ≤ 2 * exNL ws ∧ exNL (rdH s.c) ≤ 2 * exNL ws ∧ ∀ g ∈ s.n.2.2, exNL (rdH g.c) ≤ 2 * exNL ws := by
  refine ⟨by rw [h.fin]; exact placeL_ex _ _ _ _, fun s hs => ?_⟩
  obtain ⟨i, e1, e2, e3, e4⟩ := h.stage s hs
  refine ⟨?_, by rw [e2]; exact placeL_ex _ _ _ _, by rw [e3]; exact placeL_ex _ _ _ _, by rw [e4]; exact placeL_ex _ _ _ _, fun g hg => ?_⟩
  · have := congrArg List.length e1
    unfold negsL at this
    rw [List.length_map, List.length_map] at this
    have h2 := ngI_len cs cs.length i
    have := h.few
    omega
  · have hm : ngT g ∈ s.n.2.2.map ngT := List.mem_map.2 ⟨g, hg, rfl⟩
    rw [e1] at hm
    unfold negsL at hm
    obtain ⟨j, _, hj⟩ := List.mem_map.1 hm
    unfold ngT at hj
    injection hj with _ _ e5
    rw [← e5]
    exact placeL_ex _ _ _ _
/-- The error of a query. -/
def perr (cs : List Cp) (ws : List Ex) : Int := if patErr cs ≠ 0 then patErr cs else placeErr cs ws
def PlaceOut (cs : List Cp) (ws : List Ex) (w : World) (e : Ending) (w' : World) : Prop := Below w.heap.size w w' ∧
  ((perr cs ws ≠ 0 ∧ e = .returned (.tuple #[.slice none 0 0, .slice none 0 0, .int .i64 (perr cs ws)])) ∨
   (perr cs ws = 0 ∧ ∃ y : Lay, LayOk w' w.heap.size cs ws y ∧ e = .returned (.tuple #[.slice (some ⟨y.S, 0, none⟩) (stg cs) (stg cs), svT y.fin, .int .i64 0])))
theorem place_out {cs : List Cp} {ws : List Ex} {w w' : World} {e : Ending} (h : D.PlacePost cs ws w e w') : PlaceOut cs ws w e w' := by
  refine ⟨h.1, ?_⟩
  rcases h.2 with ⟨h1, rfl⟩ | ⟨h1, h2, rfl⟩ | ⟨h1, h2, G, S, N, T, U, Pl, nb, cap, junk, V, f, base, LT, hb, hL, hI, rfl⟩
  · exact Or.inl ⟨by unfold perr; rw [if_pos h1]; exact h1, by unfold perr; rw [if_pos h1]⟩
  · exact Or.inl ⟨by unfold perr; rw [if_neg (fun h => h h1)]; exact h2, by unfold perr; rw [if_neg (fun h => h h1)]⟩
  · refine Or.inr ⟨by unfold perr; rw [if_neg (fun h => h h1)]; exact h2, ?_⟩
    have h8 := (patErr_parts h1).2.1
    obtain ⟨y, e1, e2, e3, e4, e5, e6, e7, e8, e9⟩ := lay_of hI h8
    refine ⟨y, ⟨e7, e8, fun b hb' => Nat.le_trans hb (e9 b hb'), e6, e2, h8, ⟨T, U, Pl, hI.hT, by rw [e4, hL]⟩, by rw [e5, hL]⟩, by rw [e1, e3]⟩
/-- How many lists are grown. -/
theorem growT_len : ∀ (m : Nat) (t : TX), exN (exT t) ≤ m → (growT t).length ≤ exN (exT t) := by
  intro m
  induction m with
  | zero => intro t h; rw [exN_eq] at h; omega
  | succ m ih =>
    intro t h
    rw [growT_eq, exN_eq] at *
    unfold growH
    rw [List.length_append, List.length_singleton]
    have hk : (exT t).f6 = t.kids.map exT := by rw [exT_eq]
    rw [hk] at h ⊢
    have : ∀ l : List TX, (∀ x ∈ l, exN (exT x) ≤ m) → (l.flatMap growT).length ≤ exNL (l.map exT) := by
      intro l
      induction l with
      | nil => intro _; simp
      | cons x l ihl =>
        intro hx
        have h1 := ih x (hx x List.mem_cons_self)
        have h2 := ihl (fun y hy => hx y (List.mem_cons_of_mem _ hy))
        simp only [List.flatMap_cons, List.length_append, List.map_cons, exNL]
        omega
    have h2 := this t.kids (fun x hx => by have := exNL_mem t.kids x hx; omega)
    have h3 : (t.h.2.2.flatMap growT).length ≤ exNL (t.kids.map exT) := h2
    omega
theorem growH_len (x : HX) : (growH x).length ≤ exNL (rdH x) + 1 := by
  unfold growH rdH
  rw [List.length_append, List.length_singleton]
  have : ∀ l : List TX, (l.flatMap growT).length ≤ exNL (l.map exT) := by
    intro l
    induction l with
    | nil => simp
    | cons x l ihl =>
      have h1 := growT_len _ x (Nat.le_refl _)
      simp only [List.flatMap_cons, List.length_append, List.map_cons, exNL]
      omega
  have := this x.2.2
  omega
theorem flat_le {α β : Type} (f : α → List β) (B : Nat) : ∀ l : List α, (∀ x ∈ l, (f x).length ≤ B) → (l.flatMap f).length ≤ l.length * B
  | [], _ => by simp
  | x :: l, h => by
    have h1 := h x List.mem_cons_self
    have h2 := flat_le f B l (fun y hy => h y (List.mem_cons_of_mem _ hy))
    simp only [List.flatMap_cons, List.length_append, List.length_cons]
    rw [Nat.succ_mul]
    omega
theorem LayOk.grow_len {w : World} {base : Nat} {cs : List Cp} {ws : List Ex} {y : Lay} (h : LayOk w base cs ws y) (hN : exNL ws ≤ 16384) : (growL y).length ≤ 4000000 ∧ (negsOf y.l).length ≤ 8 := by
  obtain ⟨h1, h2⟩ := h.sizes
  have hl : y.l.length ≤ 8 := by have := h.len; have := stg_len cs; have := h.few; omega
  have h3 := growH_len y.fin
  have h4 := flat_le growS 400000 y.l (fun s hs => by
    obtain ⟨a0, a1, a2, a3, a4⟩ := h2 s hs
    have b1 := growH_len s.b
    have b2 := growH_len s.t
    have b3 := growH_len s.c
    have b4 := flat_le (fun g : TG => growH g.c) 32769 s.n.2.2 (fun g hg => by have := growH_len g.c; have := a4 g hg; omega)
    unfold growS growN
    simp only [List.length_append]
    have : s.n.2.2.length * 32769 ≤ 8 * 32769 := Nat.mul_le_mul_right _ a0
    omega)
  have : y.l.length * 400000 ≤ 8 * 400000 := Nat.mul_le_mul_right _ hl
  unfold growL growSs negsOf
  rw [List.length_append, List.length_map]
  omega
end Go.Proofs.Ytgnifglolbfamaa
