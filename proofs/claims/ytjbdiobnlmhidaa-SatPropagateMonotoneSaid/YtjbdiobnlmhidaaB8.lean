/- Proved here: three laws return true: SatComplete, SatProofSound, SatTrims. Conditions: those that each theorem states. -/
import Derived.Test.YtjbdiobnlmhidaaB7
set_option linter.unusedVariables false
set_option linter.unusedSimpArgs false
namespace Go.Proofs.Ytjbdiobnlmhidaa
open Go Go.RowKit

/-- the answer of sat.Solve at a problem that some values satisfy -/
theorem solve_sat (hs : SolveOk) {w : World} {B B2 : Nat → Prop} {v v2 : Value} {S : List (List Int)} {A : List Int} (h : RdSS w B v S) (h2 : RdS w B2 v2 (ints A)) (n : Int) (hn : n ≤ 14) (hr : ∀ c, c ∈ S → c.length ≤ 30) (hl : A.length ≤ 40) (hv : (validB n S && litsB n A) = true) {vals : List Bool} (hv2 : satB vals S A = true) :
    Calls Try.prog 23 #[.int .i64 n, v, v2] w fun e w' => ∃ a1 n1 c1 a2 n2 c2 a3 n3 c3, e = .returned (.tuple #[.agg #[.int .i64 1, .slice a1 n1 c1, .slice a2 n2 c2, .slice a3 n3 c3], .int .i64 0]) ∧ Below w.heap.size w w' := by
  refine (solve_good hs h h2 n hn hr hl hv).mono ?_
  rintro e w' (⟨a1, c1, a2, c2, a3, c3, vs, rfl, -, -, -, hb⟩ | ⟨a1, c1, a2, c2, a3, c3, core, P, rfl, -, -, hp, hb⟩)
  · exact ⟨_, _, _, _, _, _, _, _, _, rfl, hb⟩
  · rw [Bool.and_eq_true] at hv
    have := sat_noproof (n := n) (P := P) hv2 (valid_cls hv.1) hv.2 (chosen_sub hp.1) hp.2.2.1
    rw [hp.2.1] at this
    cases this

set_option maxHeartbeats 8000000 in
theorem law6_e0 (hs : SolveOk) {w0 : World} {B B2 B3 : Nat → Prop} {v v2 v3 : Value} {S : List (List Int)} {A : List Int} {vals : List Bool} (h : RdSS w0 B v S) (h2 : RdS w0 B2 v2 (ints A)) (h3 : RdS w0 B3 v3 (boos vals)) (n : Int) (hn : 14 < n) :
    Calls Try.prog 6 #[.int .i64 n, v, v2, v3] w0 (Yes w0) := by
  have HT := Lib.hid (large_calls h (v2 := .slice none 0 0) (pp := []) (B2 := fun _ => True) ⟨[], .inl ⟨⟨_, rfl⟩, rfl⟩, rfl, nofun⟩ h2 n)
  obtain ⟨a1, c1, rfl, -⟩ := h.form
  obtain ⟨a2, c2, rfl, -⟩ := h2.form
  obtain ⟨a3, c3, rfl, -⟩ := h3.form
  rw [ints_length] at *
  rw [boos_length] at *
  have HS0 := Lib.hid h
  have HA0 := Lib.hid h2
  have HV0 := Lib.hid h3
  have HB0 := Lib.hid (Below.refl w0.heap.size w0)
  have HK := Lib.hid (awake_yes hs w0)
  clear h h2 h3
  clear HT HS0 HA0 HV0 HB0 hs
  go_enter Try.func6, Try.ntmps6
  go_wp2_with (first | (go_at_call 12; go_must (refine HK.out.mono ?_; rintro e w1 ⟨rfl, bb⟩; have HB1 := Lib.hid bb; clear HK bb)))
  go_ret
  exact ⟨ret_bool rfl, HB1.out⟩

set_option maxHeartbeats 8000000 in
theorem law6_e1 (hs : SolveOk) {w0 : World} {B B2 B3 : Nat → Prop} {v v2 v3 : Value} {S : List (List Int)} {A : List Int} {vals : List Bool} (h : RdSS w0 B v S) (h2 : RdS w0 B2 v2 (ints A)) (h3 : RdS w0 B3 v3 (boos vals)) (n : Int) (hn : ¬ 14 < n) (ht : tooB n S [] A = true) :
    Calls Try.prog 6 #[.int .i64 n, v, v2, v3] w0 (Yes w0) := by
  have HT := Lib.hid (large_calls h (v2 := .slice none 0 0) (pp := []) (B2 := fun _ => True) ⟨[], .inl ⟨⟨_, rfl⟩, rfl⟩, rfl, nofun⟩ h2 n)
  obtain ⟨a1, c1, rfl, -⟩ := h.form
  obtain ⟨a2, c2, rfl, -⟩ := h2.form
  obtain ⟨a3, c3, rfl, -⟩ := h3.form
  rw [ints_length] at *
  rw [boos_length] at *
  have HS0 := Lib.hid h
  have HA0 := Lib.hid h2
  have HV0 := Lib.hid h3
  have HB0 := Lib.hid (Below.refl w0.heap.size w0)
  have HK := Lib.hid (awake_yes hs w0)
  clear h h2 h3
  rw [ht] at HT
  clear ht HS0 HA0 HV0 HB0 hs
  go_enter Try.func6, Try.ntmps6
  go_wp2_with (first | (go_at_call 11; go_must (refine HT.out.mono ?_; rintro e wz ⟨rfl, rfl⟩; clear HT)) | (go_at_call 12; go_must (refine HK.out.mono ?_; rintro e w1 ⟨rfl, bb⟩; have HB1 := Lib.hid bb; clear HK bb)))
  go_ret
  exact ⟨ret_bool rfl, HB1.out⟩

set_option maxHeartbeats 8000000 in
theorem law6_e2 (hs : SolveOk) {w0 : World} {B B2 B3 : Nat → Prop} {v v2 v3 : Value} {S : List (List Int)} {A : List Int} {vals : List Bool} (h : RdSS w0 B v S) (h2 : RdS w0 B2 v2 (ints A)) (h3 : RdS w0 B3 v3 (boos vals)) (n : Int) (hn : ¬ 14 < n) (ht : tooB n S [] A = false) (hne : ¬ (vals.length : Int) = n) :
    Calls Try.prog 6 #[.int .i64 n, v, v2, v3] w0 (Yes w0) := by
  have HT := Lib.hid (large_calls h (v2 := .slice none 0 0) (pp := []) (B2 := fun _ => True) ⟨[], .inl ⟨⟨_, rfl⟩, rfl⟩, rfl, nofun⟩ h2 n)
  obtain ⟨a1, c1, rfl, -⟩ := h.form
  obtain ⟨a2, c2, rfl, -⟩ := h2.form
  obtain ⟨a3, c3, rfl, -⟩ := h3.form
  rw [ints_length] at *
  rw [boos_length] at *
  have HS0 := Lib.hid h
  have HA0 := Lib.hid h2
  have HV0 := Lib.hid h3
  have HB0 := Lib.hid (Below.refl w0.heap.size w0)
  have HK := Lib.hid (awake_yes hs w0)
  clear h h2 h3
  rw [ht] at HT
  have hlen : ((vals.length : Int) != n) = true := by simp [hne]
  clear hne
  clear ht HS0 HA0 HV0 HB0 hs
  go_enter Try.func6, Try.ntmps6
  go_wp2_with (first | (go_at_call 11; go_must (refine HT.out.mono ?_; rintro e wz ⟨rfl, rfl⟩; clear HT)) | (go_at_call 12; go_must (refine HK.out.mono ?_; rintro e w1 ⟨rfl, bb⟩; have HB1 := Lib.hid bb; clear HK bb)))
  go_ret
  exact ⟨ret_bool rfl, HB1.out⟩

set_option maxHeartbeats 8000000 in
theorem law6_e3 (hs : SolveOk) {w0 : World} {B B2 B3 : Nat → Prop} {v v2 v3 : Value} {S : List (List Int)} {A : List Int} {vals : List Bool} (h : RdSS w0 B v S) (h2 : RdS w0 B2 v2 (ints A)) (h3 : RdS w0 B3 v3 (boos vals)) (n : Int) (hn : ¬ 14 < n) (ht : tooB n S [] A = false) (hne : (vals.length : Int) = n) (hv1 : validB n S = false) :
    Calls Try.prog 6 #[.int .i64 n, v, v2, v3] w0 (Yes w0) := by
  have HT := Lib.hid (large_calls h (v2 := .slice none 0 0) (pp := []) (B2 := fun _ => True) ⟨[], .inl ⟨⟨_, rfl⟩, rfl⟩, rfl, nofun⟩ h2 n)
  obtain ⟨a1, c1, rfl, -⟩ := h.form
  obtain ⟨a2, c2, rfl, -⟩ := h2.form
  obtain ⟨a3, c3, rfl, -⟩ := h3.form
  rw [ints_length] at *
  rw [boos_length] at *
  have HS0 := Lib.hid h
  have HA0 := Lib.hid h2
  have HV0 := Lib.hid h3
  have HB0 := Lib.hid (Below.refl w0.heap.size w0)
  have HK := Lib.hid (awake_yes hs w0)
  clear h h2 h3
  have HT24 := Lib.hid (Clauses_calls HS0.out n)
  rw [hv1] at HT24
  rw [ht] at HT
  have hlen : ((vals.length : Int) != n) = false := by simp [hne]
  clear hne
  clear ht hv1 HS0 HA0 HV0 HB0 hs
  go_enter Try.func6, Try.ntmps6
  go_wp2_with (first | (go_at_call 11; go_must (refine HT.out.mono ?_; rintro e wz ⟨rfl, rfl⟩; clear HT)) | (go_at_call 24; go_must (refine HT24.out.mono ?_; rintro e wz ⟨rfl, rfl⟩; clear HT24)) | (go_at_call 12; go_must (refine HK.out.mono ?_; rintro e w1 ⟨rfl, bb⟩; have HB1 := Lib.hid bb; clear HK bb)))
  go_ret
  exact ⟨ret_bool rfl, HB1.out⟩

set_option maxHeartbeats 8000000 in
theorem law6_e4 (hs : SolveOk) {w0 : World} {B B2 B3 : Nat → Prop} {v v2 v3 : Value} {S : List (List Int)} {A : List Int} {vals : List Bool} (h : RdSS w0 B v S) (h2 : RdS w0 B2 v2 (ints A)) (h3 : RdS w0 B3 v3 (boos vals)) (n : Int) (hn : ¬ 14 < n) (ht : tooB n S [] A = false) (hne : (vals.length : Int) = n) (hv1 : validB n S = true) (hv2 : litsB n A = false) :
    Calls Try.prog 6 #[.int .i64 n, v, v2, v3] w0 (Yes w0) := by
  have HT := Lib.hid (large_calls h (v2 := .slice none 0 0) (pp := []) (B2 := fun _ => True) ⟨[], .inl ⟨⟨_, rfl⟩, rfl⟩, rfl, nofun⟩ h2 n)
  obtain ⟨a1, c1, rfl, -⟩ := h.form
  obtain ⟨a2, c2, rfl, -⟩ := h2.form
  obtain ⟨a3, c3, rfl, -⟩ := h3.form
  rw [ints_length] at *
  rw [boos_length] at *
  have HS0 := Lib.hid h
  have HA0 := Lib.hid h2
  have HV0 := Lib.hid h3
  have HB0 := Lib.hid (Below.refl w0.heap.size w0)
  have HK := Lib.hid (awake_yes hs w0)
  clear h h2 h3
  have HT24 := Lib.hid (Clauses_calls HS0.out n)
  rw [hv1] at HT24
  have HT25 := Lib.hid (lits_same HA0.out hv1)
  rw [hv2] at HT25
  rw [ht] at HT
  have hlen : ((vals.length : Int) != n) = false := by simp [hne]
  clear hne
  clear ht hv1 hv2 HS0 HA0 HV0 HB0 hs
  go_enter Try.func6, Try.ntmps6
  go_wp2_with (first | (go_at_call 11; go_must (refine HT.out.mono ?_; rintro e wz ⟨rfl, rfl⟩; clear HT)) | (go_at_call 24; go_must (refine HT24.out.mono ?_; rintro e wz ⟨rfl, rfl⟩; clear HT24)) | (go_at_call 25; go_must (refine HT25.out.mono ?_; rintro e wz ⟨rfl, rfl⟩; clear HT25)) | (go_at_call 12; go_must (refine HK.out.mono ?_; rintro e w1 ⟨rfl, bb⟩; have HB1 := Lib.hid bb; clear HK bb)))
  go_ret
  exact ⟨ret_bool rfl, HB1.out⟩

set_option maxHeartbeats 8000000 in
theorem law6_e5 (hs : SolveOk) {w0 : World} {B B2 B3 : Nat → Prop} {v v2 v3 : Value} {S : List (List Int)} {A : List Int} {vals : List Bool} (h : RdSS w0 B v S) (h2 : RdS w0 B2 v2 (ints A)) (h3 : RdS w0 B3 v3 (boos vals)) (n : Int) (hn : ¬ 14 < n) (ht : tooB n S [] A = false) (hne : (vals.length : Int) = n) (hv1 : validB n S = true) (hv2 : litsB n A = true) (hsat : satB vals S A = false) :
    Calls Try.prog 6 #[.int .i64 n, v, v2, v3] w0 (Yes w0) := by
  have HT := Lib.hid (large_calls h (v2 := .slice none 0 0) (pp := []) (B2 := fun _ => True) ⟨[], .inl ⟨⟨_, rfl⟩, rfl⟩, rfl, nofun⟩ h2 n)
  obtain ⟨a1, c1, rfl, -⟩ := h.form
  obtain ⟨a2, c2, rfl, -⟩ := h2.form
  obtain ⟨a3, c3, rfl, -⟩ := h3.form
  rw [ints_length] at *
  rw [boos_length] at *
  have HS0 := Lib.hid h
  have HA0 := Lib.hid h2
  have HV0 := Lib.hid h3
  have HB0 := Lib.hid (Below.refl w0.heap.size w0)
  have HK := Lib.hid (awake_yes hs w0)
  clear h h2 h3
  have HT24 := Lib.hid (Clauses_calls HS0.out n)
  rw [hv1] at HT24
  have HT25 := Lib.hid (lits_same HA0.out hv1)
  rw [hv2] at HT25
  have hv : (validB n S && litsB n A) = true := by rw [hv1, hv2]; rfl
  have HT26 := Lib.hid (satis HS0.out HA0.out HV0.out hne hv)
  rw [hsat] at HT26
  rw [ht] at HT
  have hlen : ((vals.length : Int) != n) = false := by simp [hne]
  clear hne
  clear ht hv1 hv2 hsat hv HS0 HA0 HV0 HB0
  go_enter Try.func6, Try.ntmps6
  go_wp2_with (first | (go_at_call 11; go_must (refine HT.out.mono ?_; rintro e wz ⟨rfl, rfl⟩; clear HT)) | (go_at_call 24; go_must (refine HT24.out.mono ?_; rintro e wz ⟨rfl, rfl⟩; clear HT24)) | (go_at_call 25; go_must (refine HT25.out.mono ?_; rintro e wz ⟨rfl, rfl⟩; clear HT25)) | (go_at_call 26; go_must (refine HT26.out.mono ?_; rintro e w1 ⟨rfl, bb⟩; have HB1 := Lib.hid bb; have HK := Lib.hid (awake_yes hs w1); clear HT26 bb)) | (go_at_call 12; go_must (refine HK.out.mono ?_; rintro e w2 ⟨rfl, bb⟩; have HB2 := Lib.hid (stepB HB1.out bb); clear HK bb)))
  go_ret
  exact ⟨ret_bool rfl, HB2.out⟩

set_option maxHeartbeats 8000000 in
theorem law6_good (hs : SolveOk) {w0 : World} {B B2 B3 : Nat → Prop} {v v2 v3 : Value} {S : List (List Int)} {A : List Int} {vals : List Bool} (h : RdSS w0 B v S) (h2 : RdS w0 B2 v2 (ints A)) (h3 : RdS w0 B3 v3 (boos vals)) (n : Int) (hn : ¬ 14 < n) (ht : tooB n S [] A = false) (hne : (vals.length : Int) = n) (hv1 : validB n S = true) (hv2 : litsB n A = true) (hsat : satB vals S A = true) :
    Calls Try.prog 6 #[.int .i64 n, v, v2, v3] w0 (Yes w0) := by
  have HT := Lib.hid (large_calls h (v2 := .slice none 0 0) (pp := []) (B2 := fun _ => True) ⟨[], .inl ⟨⟨_, rfl⟩, rfl⟩, rfl, nofun⟩ h2 n)
  obtain ⟨a1, c1, rfl, -⟩ := h.form
  obtain ⟨a2, c2, rfl, -⟩ := h2.form
  obtain ⟨a3, c3, rfl, -⟩ := h3.form
  rw [ints_length] at *
  rw [boos_length] at *
  have HS0 := Lib.hid h
  have HA0 := Lib.hid h2
  have HV0 := Lib.hid h3
  have HB0 := Lib.hid (Below.refl w0.heap.size w0)
  have HK := Lib.hid (awake_yes hs w0)
  clear h h2 h3
  have hz := too_false ht
  have HT24 := Lib.hid (Clauses_calls HS0.out n)
  rw [hv1] at HT24
  have HT25 := Lib.hid (lits_same HA0.out hv1)
  rw [hv2] at HT25
  have hv : (validB n S && litsB n A) = true := by rw [hv1, hv2]; rfl
  have HT26 := Lib.hid (satis HS0.out HA0.out HV0.out hne hv)
  rw [hsat] at HT26
  rw [ht] at HT
  have hlen : ((vals.length : Int) != n) = false := by simp [hne]
  clear hne ht hv1 hv2 HV0 HK
  go_enter Try.func6, Try.ntmps6
  go_wp2_with (first | (go_at_call 11; go_must (refine HT.out.mono ?_; rintro e wz ⟨rfl, rfl⟩; clear HT)) | (go_at_call 24; go_must (refine HT24.out.mono ?_; rintro e wz ⟨rfl, rfl⟩; clear HT24)) | (go_at_call 25; go_must (refine HT25.out.mono ?_; rintro e wz ⟨rfl, rfl⟩; clear HT25)) | (go_at_call 26; go_must (refine HT26.out.mono ?_; rintro e w1 ⟨rfl, bb⟩; have HB1 := Lib.hid (stepB HB0.out bb); have HS1 := Lib.hid (HS0.out.below bb); have HA1 := Lib.hid (HA0.out.below bb); have K1 := Lib.hid (solve_sat hs HS1.out HA1.out n (by omega) hz.sr hz.al hv hsat); clear bb HT26 HB0 HS0 HA0 )) | (go_at_call 23; go_must (refine K1.out.mono ?_; rintro e w2 ⟨d1, m1, k1, d2, m2, k2, d3, m3, k3, rfl, bb⟩; have ba := al w2 (.cells #[.int .i64 1, .slice d1 m1 k1, .slice d2 m2 k2, .slice d3 m3 k3] 38); have bb := stepB bb ba; have HG2 := Lib.hid (heap_new w2 (.cells #[.int .i64 1, .slice d1 m1 k1, .slice d2 m2 k2, .slice d3 m3 k3] 38)); have HB2 := Lib.hid (stepB HB1.out bb); have HS2 := Lib.hid (HS1.out.below bb); have HA2 := Lib.hid (HA1.out.below bb); have K2 := Lib.hid (awake_yes hs (w2.alloc (.cells #[.int .i64 1, .slice d1 m1 k1, .slice d2 m2 k2, .slice d3 m3 k3] 38))); obtain ⟨f0, f1, f2, f3⟩ := box_cell HG2.out; clear bb ba K1 HB1 HS1 HA1 )) | (go_at_call 12; go_must (refine K2.out.mono ?_; rintro e w3 ⟨rfl, bb⟩; have HB3 := Lib.hid (stepB HB2.out bb); have HS3 := Lib.hid (HS2.out.below bb); have HA3 := Lib.hid (HA2.out.below bb); have HG3 := Lib.hid (heap_keep HG2.out bb); clear bb K2 HB2 HS2 HA2 HG2 f0 f1 f2 f3)))
  go_ret
  exact ⟨ret_bool rfl, HB3.out⟩

theorem law6_calls (hs : SolveOk) {w0 : World} {B B2 B3 : Nat → Prop} {v v2 v3 : Value} {S : List (List Int)} {A : List Int} {vals : List Bool} (h : RdSS w0 B v S) (h2 : RdS w0 B2 v2 (ints A)) (h3 : RdS w0 B3 v3 (boos vals)) (n : Int) :
    Calls Try.prog 6 #[.int .i64 n, v, v2, v3] w0 (Yes w0) := by
  by_cases hn : 14 < n
  · exact law6_e0 hs h h2 h3 n hn
  · rcases ht : tooB n S [] A with _ | _
    · by_cases hne : (vals.length : Int) = n
      · rcases hv1 : validB n S with _ | _
        · exact law6_e3 hs h h2 h3 n hn ht hne hv1
        · rcases hv2 : litsB n A with _ | _
          · exact law6_e4 hs h h2 h3 n hn ht hne hv1 hv2
          · rcases hsat : satB vals S A with _ | _
            · exact law6_e5 hs h h2 h3 n hn ht hne hv1 hv2 hsat
            · exact law6_good hs h h2 h3 n hn ht hne hv1 hv2 hsat
      · exact law6_e2 hs h h2 h3 n hn ht hne
    · exact law6_e1 hs h h2 h3 n hn ht
end Go.Proofs.Ytjbdiobnlmhidaa
namespace Go.Proofs.Ytjbdiobnlmhidaa
open Go Go.RowKit

theorem satS {S : List (List Int)} {vals : List Bool} (h : satB vals S [] = true) : ∀ c, c ∈ S → trueB vals c = true := by
  unfold satB at h
  rw [Bool.and_eq_true] at h
  exact fun c hc => List.all_eq_true.1 h.1 c hc
theorem sat_nocheck {n : Int} {S P : List (List Int)} {vals : List Bool} (h : satB vals S [] = true) (hv : validB n S = true) : checkR n S P = false := by
  unfold checkR
  rcases e : clsB n P with _ | _
  · simp
  · rw [proves_sound (satS h) (cls_nz (valid_cls hv)) (cls_nz e)]
    simp
theorem sat_rup {n : Int} {S : List (List Int)} {A : List Int} {vals : List Bool} (h : satB vals S [] = true) (hv : validB n S = true) (hr : rupR n S A = true) : trueB vals A = true := by
  unfold rupR at hr
  simp only [Bool.and_eq_true] at hr
  exact rup_sound (satS h) (cls_nz (valid_cls hv)) (cls_nz (n := n) (S := [A]) (by rw [cls_one]; exact hr.1.2) A (by simp)) hr.2
theorem true_ok {w : World} {B B2 : Nat → Prop} {v v2 : Value} {S : List (List Int)} {A : List Int} {vals : List Bool} (h : RdS w B v (ints A)) (h2 : RdS w B2 v2 (boos vals)) {n : Int} (hn : (vals.length : Int) = n) (hv : validB n S = true) (hl : litsB n A = true) :
    Calls Try.prog 29 #[v, v2] w fun e w' => e = .returned (.bool (trueB vals A)) ∧ w = w' := by
  obtain ⟨m, rfl, h1, -, h4⟩ := valid_cases hv
  have hm : m = vals.length := by omega
  subst hm
  exact True_calls h h2 (fun x hx => lits_of_B hl x hx) (by omega)

set_option maxHeartbeats 8000000 in
theorem law7_e0 (hs : SolveOk) {w0 : World} {B B2 B3 B4 : Nat → Prop} {v v2 v3 v4 : Value} {S P : List (List Int)} {A : List Int} {vals : List Bool} (h : RdSS w0 B v S) (h2 : RdS w0 B2 v2 (ints A)) (h3 : RdSS w0 B3 v3 P) (h4 : RdS w0 B4 v4 (boos vals)) (n : Int) (ht : tooB n S P A = true) :
    Calls Try.prog 7 #[.int .i64 n, v, v2, v3, v4] w0 (Yes w0) := by
  have HT := Lib.hid (large_calls h h3 h2 n)
  obtain ⟨a1, c1, rfl, -⟩ := h.form
  obtain ⟨a2, c2, rfl, -⟩ := h2.form
  obtain ⟨a3, c3, rfl, -⟩ := h3.form
  obtain ⟨a4, c4, rfl, -⟩ := h4.form
  rw [ints_length] at *
  rw [boos_length] at *
  have HS0 := Lib.hid h
  have HA0 := Lib.hid h2
  have HQ0 := Lib.hid h3
  have HV0 := Lib.hid h4
  have HB0 := Lib.hid (Below.refl w0.heap.size w0)
  have HK := Lib.hid (awake_yes hs w0)
  clear h h2 h3 h4
  rw [ht] at HT
  clear ht HS0 HA0 HV0 HQ0 HB0 hs
  go_enter Try.func7, Try.ntmps7
  go_wp2_with (first | (go_at_call 11; go_must (refine HT.out.mono ?_; rintro e wz ⟨rfl, rfl⟩; clear HT)) | (go_at_call 12; go_must (refine HK.out.mono ?_; rintro e w1 ⟨rfl, bb⟩; have HB1 := Lib.hid bb; clear HK bb)))
  go_ret
  exact ⟨ret_bool rfl, HB1.out⟩

set_option maxHeartbeats 8000000 in
theorem law7_e1 (hs : SolveOk) {w0 : World} {B B2 B3 B4 : Nat → Prop} {v v2 v3 v4 : Value} {S P : List (List Int)} {A : List Int} {vals : List Bool} (h : RdSS w0 B v S) (h2 : RdS w0 B2 v2 (ints A)) (h3 : RdSS w0 B3 v3 P) (h4 : RdS w0 B4 v4 (boos vals)) (n : Int) (ht : tooB n S P A = false) (hne : ¬ (vals.length : Int) = n) :
    Calls Try.prog 7 #[.int .i64 n, v, v2, v3, v4] w0 (Yes w0) := by
  have HT := Lib.hid (large_calls h h3 h2 n)
  obtain ⟨a1, c1, rfl, -⟩ := h.form
  obtain ⟨a2, c2, rfl, -⟩ := h2.form
  obtain ⟨a3, c3, rfl, -⟩ := h3.form
  obtain ⟨a4, c4, rfl, -⟩ := h4.form
  rw [ints_length] at *
  rw [boos_length] at *
  have HS0 := Lib.hid h
  have HA0 := Lib.hid h2
  have HQ0 := Lib.hid h3
  have HV0 := Lib.hid h4
  have HB0 := Lib.hid (Below.refl w0.heap.size w0)
  have HK := Lib.hid (awake_yes hs w0)
  clear h h2 h3 h4
  rw [ht] at HT
  have hlen : ((vals.length : Int) != n) = true := by simp [hne]
  clear hne
  clear ht HS0 HA0 HV0 HQ0 HB0 hs
  go_enter Try.func7, Try.ntmps7
  go_wp2_with (first | (go_at_call 11; go_must (refine HT.out.mono ?_; rintro e wz ⟨rfl, rfl⟩; clear HT)) | (go_at_call 12; go_must (refine HK.out.mono ?_; rintro e w1 ⟨rfl, bb⟩; have HB1 := Lib.hid bb; clear HK bb)))
  go_ret
  exact ⟨ret_bool rfl, HB1.out⟩

set_option maxHeartbeats 8000000 in
theorem law7_e2 (hs : SolveOk) {w0 : World} {B B2 B3 B4 : Nat → Prop} {v v2 v3 v4 : Value} {S P : List (List Int)} {A : List Int} {vals : List Bool} (h : RdSS w0 B v S) (h2 : RdS w0 B2 v2 (ints A)) (h3 : RdSS w0 B3 v3 P) (h4 : RdS w0 B4 v4 (boos vals)) (n : Int) (ht : tooB n S P A = false) (hne : (vals.length : Int) = n) (hv1 : validB n S = false) :
    Calls Try.prog 7 #[.int .i64 n, v, v2, v3, v4] w0 (Yes w0) := by
  have HT := Lib.hid (large_calls h h3 h2 n)
  obtain ⟨a1, c1, rfl, -⟩ := h.form
  obtain ⟨a2, c2, rfl, -⟩ := h2.form
  obtain ⟨a3, c3, rfl, -⟩ := h3.form
  obtain ⟨a4, c4, rfl, -⟩ := h4.form
  rw [ints_length] at *
  rw [boos_length] at *
  have HS0 := Lib.hid h
  have HA0 := Lib.hid h2
  have HQ0 := Lib.hid h3
  have HV0 := Lib.hid h4
  have HB0 := Lib.hid (Below.refl w0.heap.size w0)
  have HK := Lib.hid (awake_yes hs w0)
  clear h h2 h3 h4
  have HT24 := Lib.hid (Clauses_calls HS0.out n)
  rw [hv1] at HT24
  rw [ht] at HT
  have hlen : ((vals.length : Int) != n) = false := by simp [hne]
  clear hne
  clear ht hv1 HS0 HA0 HV0 HQ0 HB0 hs
  go_enter Try.func7, Try.ntmps7
  go_wp2_with (first | (go_at_call 11; go_must (refine HT.out.mono ?_; rintro e wz ⟨rfl, rfl⟩; clear HT)) | (go_at_call 24; go_must (refine HT24.out.mono ?_; rintro e wz ⟨rfl, rfl⟩; clear HT24)) | (go_at_call 12; go_must (refine HK.out.mono ?_; rintro e w1 ⟨rfl, bb⟩; have HB1 := Lib.hid bb; clear HK bb)))
  go_ret
  exact ⟨ret_bool rfl, HB1.out⟩

set_option maxHeartbeats 8000000 in
theorem law7_e3 (hs : SolveOk) {w0 : World} {B B2 B3 B4 : Nat → Prop} {v v2 v3 v4 : Value} {S P : List (List Int)} {A : List Int} {vals : List Bool} (h : RdSS w0 B v S) (h2 : RdS w0 B2 v2 (ints A)) (h3 : RdSS w0 B3 v3 P) (h4 : RdS w0 B4 v4 (boos vals)) (n : Int) (ht : tooB n S P A = false) (hne : (vals.length : Int) = n) (hv1 : validB n S = true) (hv2 : litsB n A = false) :
    Calls Try.prog 7 #[.int .i64 n, v, v2, v3, v4] w0 (Yes w0) := by
  have HT := Lib.hid (large_calls h h3 h2 n)
  obtain ⟨a1, c1, rfl, -⟩ := h.form
  obtain ⟨a2, c2, rfl, -⟩ := h2.form
  obtain ⟨a3, c3, rfl, -⟩ := h3.form
  obtain ⟨a4, c4, rfl, -⟩ := h4.form
  rw [ints_length] at *
  rw [boos_length] at *
  have HS0 := Lib.hid h
  have HA0 := Lib.hid h2
  have HQ0 := Lib.hid h3
  have HV0 := Lib.hid h4
  have HB0 := Lib.hid (Below.refl w0.heap.size w0)
  have HK := Lib.hid (awake_yes hs w0)
  clear h h2 h3 h4
  have HT24 := Lib.hid (Clauses_calls HS0.out n)
  rw [hv1] at HT24
  have HT25 := Lib.hid (lits_same HA0.out hv1)
  rw [hv2] at HT25
  rw [ht] at HT
  have hlen : ((vals.length : Int) != n) = false := by simp [hne]
  clear hne
  clear ht hv1 hv2 HS0 HA0 HV0 HQ0 HB0 hs
  go_enter Try.func7, Try.ntmps7
  go_wp2_with (first | (go_at_call 11; go_must (refine HT.out.mono ?_; rintro e wz ⟨rfl, rfl⟩; clear HT)) | (go_at_call 24; go_must (refine HT24.out.mono ?_; rintro e wz ⟨rfl, rfl⟩; clear HT24)) | (go_at_call 25; go_must (refine HT25.out.mono ?_; rintro e wz ⟨rfl, rfl⟩; clear HT25)) | (go_at_call 12; go_must (refine HK.out.mono ?_; rintro e w1 ⟨rfl, bb⟩; have HB1 := Lib.hid bb; clear HK bb)))
  go_ret
  exact ⟨ret_bool rfl, HB1.out⟩

set_option maxHeartbeats 8000000 in
theorem law7_e4 (hs : SolveOk) {w0 : World} {B B2 B3 B4 : Nat → Prop} {v v2 v3 v4 : Value} {S P : List (List Int)} {A : List Int} {vals : List Bool} (h : RdSS w0 B v S) (h2 : RdS w0 B2 v2 (ints A)) (h3 : RdSS w0 B3 v3 P) (h4 : RdS w0 B4 v4 (boos vals)) (n : Int) (ht : tooB n S P A = false) (hne : (vals.length : Int) = n) (hv1 : validB n S = true) (hv2 : litsB n A = true) (hsat : satB vals S [] = false) :
    Calls Try.prog 7 #[.int .i64 n, v, v2, v3, v4] w0 (Yes w0) := by
  have HT := Lib.hid (large_calls h h3 h2 n)
  obtain ⟨a1, c1, rfl, -⟩ := h.form
  obtain ⟨a2, c2, rfl, -⟩ := h2.form
  obtain ⟨a3, c3, rfl, -⟩ := h3.form
  obtain ⟨a4, c4, rfl, -⟩ := h4.form
  rw [ints_length] at *
  rw [boos_length] at *
  have HS0 := Lib.hid h
  have HA0 := Lib.hid h2
  have HQ0 := Lib.hid h3
  have HV0 := Lib.hid h4
  have HB0 := Lib.hid (Below.refl w0.heap.size w0)
  have HK := Lib.hid (awake_yes hs w0)
  clear h h2 h3 h4
  have HT24 := Lib.hid (Clauses_calls HS0.out n)
  rw [hv1] at HT24
  have HT25 := Lib.hid (lits_same HA0.out hv1)
  rw [hv2] at HT25
  have HT26 := Lib.hid (satis HS0.out (v2 := .slice none 0 0) (A := []) (B2 := fun _ => True) (.inl ⟨⟨_, rfl⟩, rfl⟩) HV0.out hne (by rw [hv1]; rfl))
  rw [hsat] at HT26
  rw [ht] at HT
  have hlen : ((vals.length : Int) != n) = false := by simp [hne]
  clear hne
  clear ht hv1 hv2 hsat HS0 HA0 HV0 HQ0 HB0
  go_enter Try.func7, Try.ntmps7
  go_wp2_with (first | (go_at_call 11; go_must (refine HT.out.mono ?_; rintro e wz ⟨rfl, rfl⟩; clear HT)) | (go_at_call 24; go_must (refine HT24.out.mono ?_; rintro e wz ⟨rfl, rfl⟩; clear HT24)) | (go_at_call 25; go_must (refine HT25.out.mono ?_; rintro e wz ⟨rfl, rfl⟩; clear HT25)) | (go_at_call 26; go_must (refine HT26.out.mono ?_; rintro e w1 ⟨rfl, bb⟩; have HB1 := Lib.hid bb; have HK := Lib.hid (awake_yes hs w1); clear HT26 bb)) | (go_at_call 12; go_must (refine HK.out.mono ?_; rintro e w2 ⟨rfl, bb⟩; have HB2 := Lib.hid (stepB HB1.out bb); clear HK bb)))
  go_ret
  exact ⟨ret_bool rfl, HB2.out⟩

set_option maxHeartbeats 8000000 in
theorem law7_good0 (hs : SolveOk) {w0 : World} {B B2 B3 B4 : Nat → Prop} {v v2 v3 v4 : Value} {S P : List (List Int)} {A : List Int} {vals : List Bool} (h : RdSS w0 B v S) (h2 : RdS w0 B2 v2 (ints A)) (h3 : RdSS w0 B3 v3 P) (h4 : RdS w0 B4 v4 (boos vals)) (n : Int) (ht : tooB n S P A = false) (hne : (vals.length : Int) = n) (hv1 : validB n S = true) (hv2 : litsB n A = true) (hsat : satB vals S [] = true) (hr : rupR n S A = false) :
    Calls Try.prog 7 #[.int .i64 n, v, v2, v3, v4] w0 (Yes w0) := by
  have HT := Lib.hid (large_calls h h3 h2 n)
  obtain ⟨a1, c1, rfl, -⟩ := h.form
  obtain ⟨a2, c2, rfl, -⟩ := h2.form
  obtain ⟨a3, c3, rfl, -⟩ := h3.form
  obtain ⟨a4, c4, rfl, -⟩ := h4.form
  rw [ints_length] at *
  rw [boos_length] at *
  have HS0 := Lib.hid h
  have HA0 := Lib.hid h2
  have HQ0 := Lib.hid h3
  have HV0 := Lib.hid h4
  have HB0 := Lib.hid (Below.refl w0.heap.size w0)
  have HK := Lib.hid (awake_yes hs w0)
  clear h h2 h3 h4
  have hz := too_false ht
  have HT24 := Lib.hid (Clauses_calls HS0.out n)
  rw [hv1] at HT24
  have HT25 := Lib.hid (lits_same HA0.out hv1)
  rw [hv2] at HT25
  have HT26 := Lib.hid (satis HS0.out (v2 := .slice none 0 0) (A := []) (B2 := fun _ => True) (.inl ⟨⟨_, rfl⟩, rfl⟩) HV0.out hne (by rw [hv1]; rfl))
  rw [hsat] at HT26
  rw [ht] at HT
  have hlen : ((vals.length : Int) != n) = false := by simp [hne]
  have hne := Lib.hid hne
  clear ht HK
  go_enter Try.func7, Try.ntmps7
  go_wp2_with (first | (go_at_call 11; go_must (refine HT.out.mono ?_; rintro e wz ⟨rfl, rfl⟩; clear HT)) | (go_at_call 24; go_must (refine HT24.out.mono ?_; rintro e wz ⟨rfl, rfl⟩; clear HT24)) | (go_at_call 25; go_must (refine HT25.out.mono ?_; rintro e wz ⟨rfl, rfl⟩; clear HT25)) | (go_at_call 26; go_must (refine HT26.out.mono ?_; rintro e w1 ⟨rfl, bb⟩; have HB1 := Lib.hid (stepB HB0.out bb); have HS1 := Lib.hid (HS0.out.below bb); have HA1 := Lib.hid (HA0.out.below bb); have HQ1 := Lib.hid (HQ0.out.below bb); have HV1 := Lib.hid (HV0.out.below bb); have K1 := Lib.hid (scheck HS1.out HQ1.out n hz.sr hz.pl hz.pr); rw [sat_nocheck hsat hv1] at K1; clear bb HT26 HB0 HS0 HA0 HQ0 HV0 )) | (go_at_call 21; go_must (refine K1.out.mono ?_; rintro e w2 ⟨rfl, bb⟩; have HB2 := Lib.hid (stepB HB1.out bb); have HS2 := Lib.hid (HS1.out.below bb); have HA2 := Lib.hid (HA1.out.below bb); have HQ2 := Lib.hid (HQ1.out.below bb); have HV2 := Lib.hid (HV1.out.below bb); have K2 := Lib.hid (srup HS2.out HA2.out n hz.sr hz.al); rw [hr] at K2; clear bb K1 HB1 HS1 HA1 HQ1 HV1 )) | (go_at_call 19; go_must (refine K2.out.mono ?_; rintro e w3 ⟨rfl, bb⟩; have HB3 := Lib.hid (stepB HB2.out bb); have HS3 := Lib.hid (HS2.out.below bb); have HA3 := Lib.hid (HA2.out.below bb); have HQ3 := Lib.hid (HQ2.out.below bb); have HV3 := Lib.hid (HV2.out.below bb); have K4 := Lib.hid (awake_yes hs w3); clear bb K2 HB2 HS2 HA2 HQ2 HV2 )) | (go_at_call 12; go_must (refine K4.out.mono ?_; rintro e w4 ⟨rfl, bb⟩; have HB4 := Lib.hid (stepB HB3.out bb); have HS4 := Lib.hid (HS3.out.below bb); have HA4 := Lib.hid (HA3.out.below bb); have HQ4 := Lib.hid (HQ3.out.below bb); have HV4 := Lib.hid (HV3.out.below bb); clear bb K4 HB3 HS3 HA3 HQ3 HV3 )))
  go_ret
  exact ⟨ret_bool rfl, HB4.out⟩

set_option maxHeartbeats 8000000 in
theorem law7_good1 (hs : SolveOk) {w0 : World} {B B2 B3 B4 : Nat → Prop} {v v2 v3 v4 : Value} {S P : List (List Int)} {A : List Int} {vals : List Bool} (h : RdSS w0 B v S) (h2 : RdS w0 B2 v2 (ints A)) (h3 : RdSS w0 B3 v3 P) (h4 : RdS w0 B4 v4 (boos vals)) (n : Int) (ht : tooB n S P A = false) (hne : (vals.length : Int) = n) (hv1 : validB n S = true) (hv2 : litsB n A = true) (hsat : satB vals S [] = true) (hr : rupR n S A = true) :
    Calls Try.prog 7 #[.int .i64 n, v, v2, v3, v4] w0 (Yes w0) := by
  have HT := Lib.hid (large_calls h h3 h2 n)
  obtain ⟨a1, c1, rfl, -⟩ := h.form
  obtain ⟨a2, c2, rfl, -⟩ := h2.form
  obtain ⟨a3, c3, rfl, -⟩ := h3.form
  obtain ⟨a4, c4, rfl, -⟩ := h4.form
  rw [ints_length] at *
  rw [boos_length] at *
  have HS0 := Lib.hid h
  have HA0 := Lib.hid h2
  have HQ0 := Lib.hid h3
  have HV0 := Lib.hid h4
  have HB0 := Lib.hid (Below.refl w0.heap.size w0)
  have HK := Lib.hid (awake_yes hs w0)
  clear h h2 h3 h4
  have hz := too_false ht
  have HT24 := Lib.hid (Clauses_calls HS0.out n)
  rw [hv1] at HT24
  have HT25 := Lib.hid (lits_same HA0.out hv1)
  rw [hv2] at HT25
  have HT26 := Lib.hid (satis HS0.out (v2 := .slice none 0 0) (A := []) (B2 := fun _ => True) (.inl ⟨⟨_, rfl⟩, rfl⟩) HV0.out hne (by rw [hv1]; rfl))
  rw [hsat] at HT26
  rw [ht] at HT
  have hlen : ((vals.length : Int) != n) = false := by simp [hne]
  have hne := Lib.hid hne
  clear ht HK
  go_enter Try.func7, Try.ntmps7
  go_wp2_with (first | (go_at_call 11; go_must (refine HT.out.mono ?_; rintro e wz ⟨rfl, rfl⟩; clear HT)) | (go_at_call 24; go_must (refine HT24.out.mono ?_; rintro e wz ⟨rfl, rfl⟩; clear HT24)) | (go_at_call 25; go_must (refine HT25.out.mono ?_; rintro e wz ⟨rfl, rfl⟩; clear HT25)) | (go_at_call 26; go_must (refine HT26.out.mono ?_; rintro e w1 ⟨rfl, bb⟩; have HB1 := Lib.hid (stepB HB0.out bb); have HS1 := Lib.hid (HS0.out.below bb); have HA1 := Lib.hid (HA0.out.below bb); have HQ1 := Lib.hid (HQ0.out.below bb); have HV1 := Lib.hid (HV0.out.below bb); have K1 := Lib.hid (scheck HS1.out HQ1.out n hz.sr hz.pl hz.pr); rw [sat_nocheck hsat hv1] at K1; clear bb HT26 HB0 HS0 HA0 HQ0 HV0 )) | (go_at_call 21; go_must (refine K1.out.mono ?_; rintro e w2 ⟨rfl, bb⟩; have HB2 := Lib.hid (stepB HB1.out bb); have HS2 := Lib.hid (HS1.out.below bb); have HA2 := Lib.hid (HA1.out.below bb); have HQ2 := Lib.hid (HQ1.out.below bb); have HV2 := Lib.hid (HV1.out.below bb); have K2 := Lib.hid (srup HS2.out HA2.out n hz.sr hz.al); rw [hr] at K2; clear bb K1 HB1 HS1 HA1 HQ1 HV1 )) | (go_at_call 19; go_must (refine K2.out.mono ?_; rintro e w3 ⟨rfl, bb⟩; have HB3 := Lib.hid (stepB HB2.out bb); have HS3 := Lib.hid (HS2.out.below bb); have HA3 := Lib.hid (HA2.out.below bb); have HQ3 := Lib.hid (HQ2.out.below bb); have HV3 := Lib.hid (HV2.out.below bb); have K4 := Lib.hid (awake_yes hs w3); have K3 := Lib.hid (true_ok HA3.out HV3.out hne.out hv1 hv2); rw [sat_rup hsat hv1 hr] at K3; clear bb K2 HB2 HS2 HA2 HQ2 HV2 )) | (go_at_call 29; go_must (refine K3.out.mono ?_; rintro e wz ⟨rfl, rfl⟩; clear K3)) | (go_at_call 12; go_must (refine K4.out.mono ?_; rintro e w4 ⟨rfl, bb⟩; have HB4 := Lib.hid (stepB HB3.out bb); have HS4 := Lib.hid (HS3.out.below bb); have HA4 := Lib.hid (HA3.out.below bb); have HQ4 := Lib.hid (HQ3.out.below bb); have HV4 := Lib.hid (HV3.out.below bb); clear bb K4 HB3 HS3 HA3 HQ3 HV3 )))
  go_ret
  exact ⟨ret_bool rfl, HB4.out⟩

theorem law7_calls (hs : SolveOk) {w0 : World} {B B2 B3 B4 : Nat → Prop} {v v2 v3 v4 : Value} {S P : List (List Int)} {A : List Int} {vals : List Bool} (h : RdSS w0 B v S) (h2 : RdS w0 B2 v2 (ints A)) (h3 : RdSS w0 B3 v3 P) (h4 : RdS w0 B4 v4 (boos vals)) (n : Int) :
    Calls Try.prog 7 #[.int .i64 n, v, v2, v3, v4] w0 (Yes w0) := by
  rcases ht : tooB n S P A with _ | _
  · by_cases hne : (vals.length : Int) = n
    · rcases hv1 : validB n S with _ | _
      · exact law7_e2 hs h h2 h3 h4 n ht hne hv1
      · rcases hv2 : litsB n A with _ | _
        · exact law7_e3 hs h h2 h3 h4 n ht hne hv1 hv2
        · rcases hsat : satB vals S [] with _ | _
          · exact law7_e4 hs h h2 h3 h4 n ht hne hv1 hv2 hsat
          · rcases hr : rupR n S A with _ | _
            · exact law7_good0 hs h h2 h3 h4 n ht hne hv1 hv2 hsat hr
            · exact law7_good1 hs h h2 h3 h4 n ht hne hv1 hv2 hsat hr
    · exact law7_e1 hs h h2 h3 h4 n ht hne
  · exact law7_e0 hs h h2 h3 h4 n ht
end Go.Proofs.Ytjbdiobnlmhidaa
namespace Go.Proofs.Ytjbdiobnlmhidaa
open Go Go.RowKit

def TrimBad (w : World) (er : Int) (e : Ending) (w' : World) : Prop := ∃ a c, e = .returned (.tuple #[.slice a 0 c, .int .i64 er]) ∧ Below w.heap.size w w'
def TrimGood (S P : List (List Int)) (w : World) (e : Ending) (w' : World) : Prop := ∃ a c Q, e = .returned (.tuple #[.slice a (List.length Q) c, .int .i64 0]) ∧ RdSS w' (fun _ => True) (.slice a Q.length c) Q ∧ (provesB S Q = true ∧ Q.Sublist P ∧ ∀ j, j < Q.length → provesB S (without Q j) = false) ∧ Below w.heap.size w w'
theorem strim {w : World} {B B2 : Nat → Prop} {v v2 : Value} {S P : List (List Int)} (h : RdSS w B v S) (h2 : RdSS w B2 v2 P) (n : Int) (hr : ∀ c, c ∈ S → c.length ≤ 30) (hl : P.length ≤ 40) (hr2 : ∀ c, c ∈ P → c.length ≤ 30) :
    Calls Try.prog 30 #[.int .i64 n, v, v2] w (TrimW n S P w) := sTrim_calls h h2 n (by omega) (fun c hc => by have := hr c hc; omega) (fun c hc => by have := hr2 c hc; omega)
theorem trim_bad1 {n : Int} {S P : List (List Int)} {w : World} {e : Ending} {w' : World} (hv : (validB n S && clsB n P) = false) (h : TrimW n S P w e w') : TrimBad w 1 e w' := by
  obtain ⟨a, k, c, er, Q, rfl, ho, hb, hi, -⟩ := h
  obtain ⟨rfl, rfl⟩ := hi hv
  obtain ⟨a', c', e, -⟩ := ho.form
  cases e
  exact ⟨_, _, rfl, hb⟩
theorem trim_bad2 {n : Int} {S P : List (List Int)} {w : World} {e : Ending} {w' : World} (hv : (validB n S && clsB n P) = true) (hp : provesB S P = false) (h : TrimW n S P w e w') : TrimBad w 11 e w' := by
  obtain ⟨a, k, c, er, Q, rfl, ho, hb, -, hi⟩ := h
  obtain ⟨rfl, rfl⟩ := (hi hv).1 hp
  obtain ⟨a', c', e, -⟩ := ho.form
  cases e
  exact ⟨_, _, rfl, hb⟩
theorem trim_good {n : Int} {S P : List (List Int)} {w : World} {e : Ending} {w' : World} (hv : (validB n S && clsB n P) = true) (hp : provesB S P = true) (h : TrimW n S P w e w') : TrimGood S P w e w' := by
  obtain ⟨a, k, c, er, Q, rfl, ho, hb, -, hi⟩ := h
  obtain ⟨rfl, h1, h2, h3⟩ := (hi hv).2 hp
  have hr := ho.rd
  obtain ⟨a', c', e, -⟩ := hr.form
  cases e
  exact ⟨_, _, Q, rfl, hr, ⟨h1, h2, h3⟩, hb⟩
theorem cls_take {n : Int} {P : List (List Int)} {k : Nat} (h : k < P.length) : clsB n (P.take (k + 1)) = (clsB n (P.take k) && litsB n (P.getD k [])) := by
  rw [← take_one h]
  simp [clsB]
theorem check_val {n : Int} {S P : List (List Int)} (hv : (validB n S && clsB n P) = true) : checkR n S P = provesB S P := by unfold checkR; rw [hv]; rfl
theorem cls_sub {n : Int} {P Q : List (List Int)} (h : clsB n P = true) (hs : Q.Sublist P) : clsB n Q = true := List.all_eq_true.2 fun c hc => List.all_eq_true.1 h c (hs.subset hc)
theorem within_yes {w : World} {B B2 : Nat → Prop} {v v2 : Value} {a b : List (List Int)} (h : RdSS w B v a) (h2 : RdSS w B2 v2 b) (hc : a.Sublist b) : Calls Try.prog 31 #[v, v2] w (Yes w) := by
  refine (Within_calls h h2).mono ?_
  rintro e w' ⟨rfl, hs⟩
  have e : withinB a b = true := List.isSublist_iff_sublist.2 hc
  rw [e]
  exact ⟨rfl, hs.below _⟩

set_option maxHeartbeats 8000000 in
theorem law8_e0 (hs : SolveOk) {w0 : World} {B B2 : Nat → Prop} {v v2 : Value} {S P : List (List Int)} (h : RdSS w0 B v S) (h2 : RdSS w0 B2 v2 P) (n : Int) (ht : tooB n S P [] = true) :
    Calls Try.prog 8 #[.int .i64 n, v, v2] w0 (Yes w0) := by
  have HT := Lib.hid (large_calls h h2 (v3 := .slice none 0 0) (l := []) (B3 := fun _ => True) (.inl ⟨⟨_, rfl⟩, rfl⟩) n)
  obtain ⟨a1, c1, rfl, hc11, hc12⟩ := h.form
  obtain ⟨a2, c2, rfl, hc21, hc22⟩ := h2.form
  unfold maxLen at hc12 hc22
  have HS0 := Lib.hid h
  have HP0 := Lib.hid h2
  have HB0 := Lib.hid (Below.refl w0.heap.size w0)
  clear h h2
  rw [ht] at HT
  have HK := Lib.hid (awake_yes hs w0)
  clear HS0 HP0 HB0 hs ht
  go_enter Try.func8, Try.ntmps8
  go_wp2_with (first | (go_at_call 11; go_must (refine HT.out.mono ?_; rintro e wz ⟨rfl, rfl⟩; clear HT)) | (go_at_call 12; go_must (refine HK.out.mono ?_; rintro e w1 ⟨rfl, bb⟩; have HB1 := Lib.hid bb; clear HK bb)))
  go_ret
  exact ⟨ret_bool rfl, HB1.out⟩

set_option maxHeartbeats 8000000 in
theorem law8_bad1 (hs : SolveOk) {w0 : World} {B B2 : Nat → Prop} {v v2 : Value} {S P : List (List Int)} (h : RdSS w0 B v S) (h2 : RdSS w0 B2 v2 P) (n : Int) (ht : tooB n S P [] = false) (hv : (validB n S && clsB n P) = false) :
    Calls Try.prog 8 #[.int .i64 n, v, v2] w0 (Yes w0) := by
  have HT := Lib.hid (large_calls h h2 (v3 := .slice none 0 0) (l := []) (B3 := fun _ => True) (.inl ⟨⟨_, rfl⟩, rfl⟩) n)
  obtain ⟨a1, c1, rfl, hc11, hc12⟩ := h.form
  obtain ⟨a2, c2, rfl, hc21, hc22⟩ := h2.form
  unfold maxLen at hc12 hc22
  have HS0 := Lib.hid h
  have HP0 := Lib.hid h2
  have HB0 := Lib.hid (Below.refl w0.heap.size w0)
  clear h h2
  rw [ht] at HT
  have hz := too_false ht
  have HC := Lib.hid (own_ss HS0.out hz.sl hz.sr)
  have hk0 : P.length ≤ 40 := hz.pl
  clear ht
  go_enter Try.func8, Try.ntmps8
  go_wp2_with (first | (go_at_call 11; go_must (refine HT.out.mono ?_; rintro e wz ⟨rfl, rfl⟩; clear HT)) | (go_at_call 13; (refine HC.out.mono ?_; rintro e w1 ⟨ao, co, rfl, ro, bb⟩; have HB1 := Lib.hid (stepB HB0.out bb); have HS1 := Lib.hid (HS0.out.below bb); have HP1 := Lib.hid (HP0.out.below bb); have HO1 := Lib.hid (ro); have K1 := Lib.hid (own_ss HP1.out (by have := hz.pl; omega) hz.pr); clear ro; clear bb HC HB0 HS0 HP0 )) | (go_at_call 13; (refine K1.out.mono ?_; rintro e w2 ⟨ap, cp, rfl, ro, bb⟩; have HB2 := Lib.hid (stepB HB1.out bb); have HS2 := Lib.hid (HS1.out.below bb); have HP2 := Lib.hid (HP1.out.below bb); have HO2 := Lib.hid (HO1.out.below bb); have HI2 := Lib.hid (ro); have K2 := Lib.hid (strim HO2.out HI2.out n hz.sr hz.pl hz.pr); clear ro; clear bb K1 HB1 HS1 HP1 HO1 )) | (go_at_call 30; go_must (refine K2.out.mono ?_; rintro e w3 hpo; obtain ⟨aq, cq, rfl, bb⟩ := trim_bad1 hv hpo; clear hpo; have HB3 := Lib.hid (stepB HB2.out bb); have HS3 := Lib.hid (HS2.out.below bb); have HP3 := Lib.hid (HP2.out.below bb); have K3 := Lib.hid (Clauses_calls HS3.out n); clear bb K2 HB2 HS2 HP2 HO2 HI2 )) | (go_at_call 24; go_must (refine K3.out.mono ?_; rintro e wz ⟨rfl, rfl⟩; clear K3)))
  clear hk0
  go_loopg [9, 10] P.length (fun kq v9 v10 w' => ∃ k : Nat, v10 = .int .i64 k ∧ k + kq = P.length ∧ v9 = .bool (validB n S && clsB n (P.take k)) ∧ w' = w3)
  case atStart => exact ⟨0, rfl, by omega, by simp [clsB], rfl⟩
  case round =>
    obtain ⟨k, rfl, hk, rfl, rfl⟩ := hrel
    by_cases hlt : k < P.length
    · obtain ⟨b, o, a', c', rfl, kcell, hr, hl1, hl2⟩ := HP3.out.at hlt
      have HX := Lib.hid (cls_take (n := n) hlt)
      rcases hq : (validB n S && clsB n (P.take k)) with _ | _
      · have HN : Hid ((validB n S && clsB n (P.take (k + 1))) = false) := by show _ = _; rw [HX.out, ← Bool.and_assoc, hq]; rfl
        clear hr hl1 hl2 HX hq
        go_wp2_with fail
        go_roundg (gk - 1)
        case measure => omega
        case rel => exact ⟨k + 1, by go_num, by omega, by rw [HN.out], rfl⟩
      · have hvs : validB n S = true := by
          rw [Bool.and_eq_true] at hq; exact hq.1
        have HY := Lib.hid (lits_same hr hvs)
        have HN : Hid ((validB n S && clsB n (P.take (k + 1))) = litsB n (P.getD k [])) := by show _ = _; rw [HX.out, ← Bool.and_assoc, hq]; rfl
        generalize P.getD k [] = x at *
        unfold maxLen at hl2
        clear hr HX hq hvs
        go_wp2_with (go_at_call 25; go_must (refine HY.out.mono ?_; rintro e wz ⟨rfl, rfl⟩; clear HY))
        go_roundg (gk - 1)
        case measure => omega
        case rel => exact ⟨k + 1, by go_num, by omega, by rw [HN.out], rfl⟩
    · obtain rfl : k = P.length := by omega
      rw [List.take_length]
      rw [hv]
      have HK := Lib.hid (awake_yes hs wr)
      clear HS3 HP3 hk hlt
      go_wp2_with (go_at_call 12; go_must (refine HK.out.mono ?_; rintro e w4 ⟨rfl, bb⟩; have HB4 := Lib.hid (stepB HB3.out bb); clear HK bb))
      go_ret
      exact ⟨ret_bool rfl, HB4.out⟩

set_option maxHeartbeats 8000000 in
theorem law8_bad2 (hs : SolveOk) {w0 : World} {B B2 : Nat → Prop} {v v2 : Value} {S P : List (List Int)} (h : RdSS w0 B v S) (h2 : RdSS w0 B2 v2 P) (n : Int) (ht : tooB n S P [] = false) (hv : (validB n S && clsB n P) = true) (hp : provesB S P = false) :
    Calls Try.prog 8 #[.int .i64 n, v, v2] w0 (Yes w0) := by
  have HT := Lib.hid (large_calls h h2 (v3 := .slice none 0 0) (l := []) (B3 := fun _ => True) (.inl ⟨⟨_, rfl⟩, rfl⟩) n)
  obtain ⟨a1, c1, rfl, hc11, hc12⟩ := h.form
  obtain ⟨a2, c2, rfl, hc21, hc22⟩ := h2.form
  unfold maxLen at hc12 hc22
  have HS0 := Lib.hid h
  have HP0 := Lib.hid h2
  have HB0 := Lib.hid (Below.refl w0.heap.size w0)
  clear h h2
  rw [ht] at HT
  have hz := too_false ht
  have HC := Lib.hid (own_ss HS0.out hz.sl hz.sr)
  have hk0 : P.length ≤ 40 := hz.pl
  clear ht
  go_enter Try.func8, Try.ntmps8
  go_wp2_with (first | (go_at_call 11; go_must (refine HT.out.mono ?_; rintro e wz ⟨rfl, rfl⟩; clear HT)) | (go_at_call 13; (refine HC.out.mono ?_; rintro e w1 ⟨ao, co, rfl, ro, bb⟩; have HB1 := Lib.hid (stepB HB0.out bb); have HS1 := Lib.hid (HS0.out.below bb); have HP1 := Lib.hid (HP0.out.below bb); have HO1 := Lib.hid (ro); have K1 := Lib.hid (own_ss HP1.out (by have := hz.pl; omega) hz.pr); clear ro; clear bb HC HB0 HS0 HP0 )) | (go_at_call 13; (refine K1.out.mono ?_; rintro e w2 ⟨ap, cp, rfl, ro, bb⟩; have HB2 := Lib.hid (stepB HB1.out bb); have HS2 := Lib.hid (HS1.out.below bb); have HP2 := Lib.hid (HP1.out.below bb); have HO2 := Lib.hid (HO1.out.below bb); have HI2 := Lib.hid (ro); have K2 := Lib.hid (strim HO2.out HI2.out n hz.sr hz.pl hz.pr); clear ro; clear bb K1 HB1 HS1 HP1 HO1 )) | (go_at_call 30; go_must (refine K2.out.mono ?_; rintro e w3 hpo; obtain ⟨aq, cq, rfl, bb⟩ := trim_bad2 hv hp hpo; clear hpo; have HB3 := Lib.hid (stepB HB2.out bb); have HS3 := Lib.hid (HS2.out.below bb); have HP3 := Lib.hid (HP2.out.below bb); have K3 := Lib.hid (Clauses_calls HS3.out n); clear bb K2 HB2 HS2 HP2 HO2 HI2 )) | (go_at_call 24; go_must (refine K3.out.mono ?_; rintro e wz ⟨rfl, rfl⟩; clear K3)))
  clear hk0
  go_loopg [9, 10] P.length (fun kq v9 v10 w' => ∃ k : Nat, v10 = .int .i64 k ∧ k + kq = P.length ∧ v9 = .bool (validB n S && clsB n (P.take k)) ∧ w' = w3)
  case atStart => exact ⟨0, rfl, by omega, by simp [clsB], rfl⟩
  case round =>
    obtain ⟨k, rfl, hk, rfl, rfl⟩ := hrel
    by_cases hlt : k < P.length
    · obtain ⟨b, o, a', c', rfl, kcell, hr, hl1, hl2⟩ := HP3.out.at hlt
      have HX := Lib.hid (cls_take (n := n) hlt)
      rcases hq : (validB n S && clsB n (P.take k)) with _ | _
      · have HN : Hid ((validB n S && clsB n (P.take (k + 1))) = false) := by show _ = _; rw [HX.out, ← Bool.and_assoc, hq]; rfl
        clear hr hl1 hl2 HX hq
        go_wp2_with fail
        go_roundg (gk - 1)
        case measure => omega
        case rel => exact ⟨k + 1, by go_num, by omega, by rw [HN.out], rfl⟩
      · have hvs : validB n S = true := by
          rw [Bool.and_eq_true] at hq; exact hq.1
        have HY := Lib.hid (lits_same hr hvs)
        have HN : Hid ((validB n S && clsB n (P.take (k + 1))) = litsB n (P.getD k [])) := by show _ = _; rw [HX.out, ← Bool.and_assoc, hq]; rfl
        generalize P.getD k [] = x at *
        unfold maxLen at hl2
        clear hr HX hq hvs
        go_wp2_with (go_at_call 25; go_must (refine HY.out.mono ?_; rintro e wz ⟨rfl, rfl⟩; clear HY))
        go_roundg (gk - 1)
        case measure => omega
        case rel => exact ⟨k + 1, by go_num, by omega, by rw [HN.out], rfl⟩
    · obtain rfl : k = P.length := by omega
      rw [List.take_length]
      rw [hv]
      have HX := Lib.hid (rcheck HS3.out HP3.out n hz.pl hz.pr)
      rw [check_val hv, hp] at HX
      clear HS3 HP3 hk hlt hz
      go_wp2_with (first | (go_at_call 22; go_must (refine HX.out.mono ?_; rintro e w4 ⟨rfl, bb⟩; have HB4 := Lib.hid (stepB HB3.out bb); have HK := Lib.hid (awake_yes hs w4); clear HX bb)) | (go_at_call 12; go_must (refine HK.out.mono ?_; rintro e w5 ⟨rfl, bb⟩; have HB5 := Lib.hid (stepB HB4.out bb); clear HK bb)))
      go_ret
      exact ⟨ret_bool rfl, HB5.out⟩

set_option maxHeartbeats 8000000 in
theorem law8_good (hs : SolveOk) {w0 : World} {B B2 : Nat → Prop} {v v2 : Value} {S P : List (List Int)} (h : RdSS w0 B v S) (h2 : RdSS w0 B2 v2 P) (n : Int) (ht : tooB n S P [] = false) (hv : (validB n S && clsB n P) = true) (hp : provesB S P = true) :
    Calls Try.prog 8 #[.int .i64 n, v, v2] w0 (Yes w0) := by
  have HT := Lib.hid (large_calls h h2 (v3 := .slice none 0 0) (l := []) (B3 := fun _ => True) (.inl ⟨⟨_, rfl⟩, rfl⟩) n)
  obtain ⟨a1, c1, rfl, hc11, hc12⟩ := h.form
  obtain ⟨a2, c2, rfl, hc21, hc22⟩ := h2.form
  unfold maxLen at hc12 hc22
  have HS0 := Lib.hid h
  have HP0 := Lib.hid h2
  have HB0 := Lib.hid (Below.refl w0.heap.size w0)
  clear h h2
  rw [ht] at HT
  have hz := too_false ht
  have HC := Lib.hid (own_ss HS0.out hz.sl hz.sr)
  have hk0 : P.length ≤ 40 := hz.pl
  clear ht
  go_enter Try.func8, Try.ntmps8
  go_wp2_with (first | (go_at_call 11; go_must (refine HT.out.mono ?_; rintro e wz ⟨rfl, rfl⟩; clear HT)) | (go_at_call 13; (refine HC.out.mono ?_; rintro e w1 ⟨ao, co, rfl, ro, bb⟩; have HB1 := Lib.hid (stepB HB0.out bb); have HS1 := Lib.hid (HS0.out.below bb); have HP1 := Lib.hid (HP0.out.below bb); have HO1 := Lib.hid (ro); have K1 := Lib.hid (own_ss HP1.out (by have := hz.pl; omega) hz.pr); clear ro; clear bb HC HB0 HS0 HP0 )) | (go_at_call 13; (refine K1.out.mono ?_; rintro e w2 ⟨ap, cp, rfl, ro, bb⟩; have HB2 := Lib.hid (stepB HB1.out bb); have HS2 := Lib.hid (HS1.out.below bb); have HP2 := Lib.hid (HP1.out.below bb); have HO2 := Lib.hid (HO1.out.below bb); have HI2 := Lib.hid (ro); have K2 := Lib.hid (strim HO2.out HI2.out n hz.sr hz.pl hz.pr); clear ro; clear bb K1 HB1 HS1 HP1 HO1 )) | (go_at_call 30; go_must (refine K2.out.mono ?_; rintro e w3 hpo; obtain ⟨aq, cq, Q, rfl, rq, hq, bb⟩ := trim_good hv hp hpo; clear hpo; have HB3 := Lib.hid (stepB HB2.out bb); have HS3 := Lib.hid (HS2.out.below bb); have HP3 := Lib.hid (HP2.out.below bb); have HQ3 := Lib.hid (rq); have K3 := Lib.hid (Clauses_calls HS3.out n); have HQV := Lib.hid hq; clear rq hq bb K2 HB2 HS2 HP2 HO2 HI2 )) | (go_at_call 24; go_must (refine K3.out.mono ?_; rintro e wz ⟨rfl, rfl⟩; clear K3)))
  clear hk0
  go_loopg [9, 10] P.length (fun kq v9 v10 w' => ∃ k : Nat, v10 = .int .i64 k ∧ k + kq = P.length ∧ v9 = .bool (validB n S && clsB n (P.take k)) ∧ w' = w3)
  case atStart => exact ⟨0, rfl, by omega, by simp [clsB], rfl⟩
  case round =>
    obtain ⟨k, rfl, hk, rfl, rfl⟩ := hrel
    by_cases hlt : k < P.length
    · obtain ⟨b, o, a', c', rfl, kcell, hr, hl1, hl2⟩ := HP3.out.at hlt
      have HX := Lib.hid (cls_take (n := n) hlt)
      rcases hq : (validB n S && clsB n (P.take k)) with _ | _
      · have HN : Hid ((validB n S && clsB n (P.take (k + 1))) = false) := by show _ = _; rw [HX.out, ← Bool.and_assoc, hq]; rfl
        clear hr hl1 hl2 HX hq
        go_wp2_with fail
        go_roundg (gk - 1)
        case measure => omega
        case rel => exact ⟨k + 1, by go_num, by omega, by rw [HN.out], rfl⟩
      · have hvs : validB n S = true := by
          rw [Bool.and_eq_true] at hq; exact hq.1
        have HY := Lib.hid (lits_same hr hvs)
        have HN : Hid ((validB n S && clsB n (P.take (k + 1))) = litsB n (P.getD k [])) := by show _ = _; rw [HX.out, ← Bool.and_assoc, hq]; rfl
        generalize P.getD k [] = x at *
        unfold maxLen at hl2
        clear hr HX hq hvs
        go_wp2_with (go_at_call 25; go_must (refine HY.out.mono ?_; rintro e wz ⟨rfl, rfl⟩; clear HY))
        go_roundg (gk - 1)
        case measure => omega
        case rel => exact ⟨k + 1, by go_num, by omega, by rw [HN.out], rfl⟩
    · obtain rfl : k = P.length := by omega
      rw [List.take_length]
      rw [hv]
      have HX := Lib.hid (rcheck HS3.out HP3.out n hz.pl hz.pr)
      rw [check_val hv, hp] at HX
      have HQL : Hid (Q.length ≤ 40 ∧ ∀ c, c ∈ Q → c.length ≤ 30) := ⟨Nat.le_trans HQV.out.2.1.length_le hz.pl, fun c hc => hz.pr c (HQV.out.2.1.subset hc)⟩
      have HQC : Hid ((validB n S && clsB n Q) = true) := by
        show _ = _
        rw [Bool.and_eq_true] at hv ⊢
        exact ⟨hv.1, cls_sub hv.2 HQV.out.2.1⟩
      have HPN := Lib.hid (And.intro hp (And.intro hv hz))
      clear hk hlt hp hv hz
      go_wp2_with (first | (go_at_call 22; (refine HX.out.mono ?_; rintro e w4 ⟨rfl, bb⟩; have HB4 := Lib.hid (stepB HB3.out bb); have HS4 := Lib.hid (HS3.out.below bb); have HP4 := Lib.hid (HP3.out.below bb); have HQ4 := Lib.hid (HQ3.out.below bb); have K4 := Lib.hid (within_yes HQ4.out HP4.out HQV.out.2.1); clear bb HX HB3 HS3 HP3 HQ3 )) | (go_at_call 31; go_must (refine K4.out.mono ?_; rintro e w5 ⟨rfl, bb⟩; have HB5 := Lib.hid (stepB HB4.out bb); have HS5 := Lib.hid (HS4.out.below bb); have HQ5 := Lib.hid (HQ4.out.below bb); have K5 := Lib.hid (rcheck HS5.out HQ5.out n HQL.out.1 HQL.out.2); rw [check_val HQC.out, HQV.out.1] at K5; clear bb K4 HB4 HS4 HP4 HQ4 )) | (go_at_call 22; (refine K5.out.mono ?_; rintro e w6 ⟨rfl, bb⟩; have HB6 := Lib.hid (stepB HB5.out bb); have HS6 := Lib.hid (HS5.out.below bb); have HQ6 := Lib.hid (HQ5.out.below bb); clear bb K5 HB5 HS5 HQ5 )))
      have hq0 := HQL.out.1
      go_loopg [11] Q.length (fun kq v11 w' => ∃ k : Nat, v11 = .int .i64 k ∧ k + kq = Q.length ∧ Hid (Below w6.heap.size w6 w'))
      case atStart => exact ⟨0, rfl, by omega, Below.refl _ _⟩
      case round =>
        obtain ⟨k, rfl, hk, HB7⟩ := hrel
        by_cases hlt : k < Q.length
        · have hQ7 := HQ6.out.below HB7.out
          obtain ⟨vs, h1, h2⟩ := hQ7.rows
          have hvl := h2.1
          obtain ⟨b, o, c, ec, hc1, hc2, hB, hlb, -⟩ := h1.cell (i := k) (by omega)
          simp only [Value.slice.injEq] at ec
          obtain ⟨rfl, -, rfl⟩ := ec
          have hc1' : Q.length ≤ cq := by omega
          unfold maxLen at hc2
          have hi1 : IntKind.i64.wrap ((k : Int) + 1) = ((k + 1 : Nat) : Int) := by rw [IntWalk.i64_in _ (by omega)]; omega
          obtain ⟨ad, hite, had⟩ : ∃ ad : Addr, (if cq = k + 1 then some (⟨b, o, none⟩ : Addr) else some ⟨b, o + (k + 1), none⟩) = some ad ∧ (ad.block = b ∧ ad.spot = none ∧ (k + 1 < Q.length → ad = ⟨b, o + (k + 1), none⟩)) := by
            by_cases hcap : cq = k + 1
            · exact ⟨⟨b, o, none⟩, if_pos hcap, rfl, rfl, fun h => by omega⟩
            · exact ⟨⟨b, o + (k + 1), none⟩, if_neg hcap, rfl, rfl, fun _ => rfl⟩
          have HAD := Lib.hid had
          have H12 := Lib.hid (And.intro h1 (And.intro h2 hvl))
          have hk1 : k ≤ cq := by omega
          have hk2 : k + 1 ≤ cq := by omega
          have hk3 : k + 1 ≤ Q.length := by omega
          have hk4 : (k : Int) + 1 ≤ (Q.length : Int) := by omega
          have hk0 : (0 : Int) ≤ (k : Int) + 1 := by omega
          have HLT := Lib.hid hlt
          have HS7 := Lib.hid (HS6.out.below HB7.out)
          clear had h1 h2 hB hlb hvl hQ7 hc1
          go_wp2_with fail
          have hb0 : Below wr.heap.size wr wr.drew := (Same.refl wr).drew.below _
          have HR1 := Lib.hid (And.intro ((H12.out.1.below hb0).front (k := k) (by have := H12.out.2.2; omega)) ((H12.out.1.below hb0).back (k := k + 1) (by have := H12.out.2.2; omega) HAD.out.1 HAD.out.2.1 (by rw [H12.out.2.2]; exact HAD.out.2.2)))
          have HR2 := Lib.hid (And.intro ((H12.out.2.1.below hb0).take k) ((H12.out.2.1.below hb0).drop (k + 1)))
          refine wp_region_seq (fun _ => True) []
            [(0, 2), (1, 2), (3, 2), (4, 2), (5, 2), (7, 2), (8, 2), (9, 2), (10, 2), (2, 0), (6, 0), (11, 0), (12, 0)]
            (by kernel_rfl) (by kernel_rfl) (fun c a d v w h => by cases d <;> exact h) (by kernel_rfl) trivial ?_
          repeat
            first
              | refine wpSeqN_quiet (v := ?_) rfl (Or.inl ⟨rfl, ?_⟩) ?_
              | refine wpSeqN_pure (v := ?_) rfl (Or.inl ⟨rfl, ?_⟩) ?_
            rotate_left
            focus (intro w hSw; (try dsimp only at hSw); first | (go_simp; done) | (go_simp; with_reducible rfl))
            simp only [Act.put, List.setIfInBounds_toArray, List.set_cons_zero, List.set_cons_succ]
          refine wpSeqN_loud rfl (fun K hK => ?_)
          go_simp
          refine hK.out _ _ (fun _ => trivial) ?_
          clear hK K
          try simp only [Act.put, List.setIfInBounds_toArray, List.set_cons_zero, List.set_cons_succ]
          have hb1 : Below wr.heap.size wr (wr.alloc (.cells #[] 23)).drew := (al wr _).drew
          have ho1 : OSS wr.heap.size (wr.alloc (.cells #[] 23)).drew (.slice (some ⟨wr.heap.size, 0, none⟩) 0 0) [] := (OSS.empty_new wr (Nat.le_refl _)).kept ((Below.refl _ _).drew)
          refine wpSeqN_loud rfl (fun K hK => ?_)
          refine step_pushes (w0 := wr) rfl _ _ rfl (.slice (some ⟨wr.heap.size, 0, none⟩) 0 0) [] rfl ho1 hb1 (vs.take k) (Q.take k) rfl ((H12.out.1.below hb1).front (k := k) (by have := H12.out.2.2; omega)) (RowsAt.off ho1 (H12.out.2.1.take k) (Nat.le_refl _) hb1) (by simp; omega) ?_
          rintro a5 n5 c5 w5 ho5 hb5 - -
          refine hK.out _ _ (fun _ => trivial) ?_
          clear hK K ho1 hb1
          try simp only [Act.put, List.setIfInBounds_toArray, List.set_cons_zero, List.set_cons_succ]
          have HO5 := Lib.hid (And.intro ho5 hb5)
          clear ho5 hb5
          refine wpSeqN_loud rfl (fun K hK => ?_)
          refine step_pushes (w0 := wr) rfl _ _ rfl (.slice a5 n5 c5) ([] ++ Q.take k) rfl HO5.out.1 HO5.out.2 (vs.drop (k + 1)) (Q.drop (k + 1)) rfl ((H12.out.1.below HO5.out.2).back (k := k + 1) (by have := H12.out.2.2; omega) HAD.out.1 HAD.out.2.1 (by rw [H12.out.2.2]; exact HAD.out.2.2)) (RowsAt.off HO5.out.1 (H12.out.2.1.drop (k + 1)) (Nat.le_refl _) HO5.out.2) (by simp; omega) ?_
          rintro a6 n6 c6 w8 ho6 hb6 - -
          refine hK.out _ _ (fun _ => trivial) ?_
          clear hK K
          try simp only [Act.put, List.setIfInBounds_toArray, List.set_cons_zero, List.set_cons_succ]
          have ho6' : RdSS w8 (fun _ => True) (.slice a6 n6 c6) (without Q k) := ho6.rd
          have HX := Lib.hid (rcheck (HS7.out.below hb6) ho6' n (Nat.le_trans (without_sub Q k).length_le HQL.out.1) (fun c hc => HQL.out.2 c ((without_sub Q k).subset hc)))
          rw [check_val (P := without Q k) (by have := HQC.out; rw [Bool.and_eq_true] at this ⊢; exact ⟨this.1, cls_sub this.2 (without_sub Q k)⟩), HQV.out.2.2 k hlt] at HX
          have HB8 := Lib.hid (HB7.out.trans (hb6.mono HB7.out.size))
          clear ho6 hb6 ho6' HO5 HS7 HB7 H12 HAD
          refine wpSeqN_loud rfl (fun K hK => ?_)
          go_simp
          refine HX.out.mono ?_
          rintro e w9 ⟨rfl, bb⟩
          refine hK.out _ _ (fun _ => trivial) ?_
          have HB9 := Lib.hid (HB8.out.trans (bb.mono HB8.out.size))
          clear hK K bb HX HB8
          try simp only [Act.put, List.setIfInBounds_toArray, List.set_cons_zero, List.set_cons_succ]
          refine wpSeqN_nil ?_
          clear hite hi1 hk1 hk2 hk3 hk4 hk0 HLT
          go_wp2
          go_roundg (gk - 1)
          case measure => omega
          case rel => exact ⟨k + 1, by go_num, by omega, HB9⟩
        · obtain rfl : k = Q.length := by omega
          have HK := Lib.hid (awake_yes hs wr)
          clear hk hlt
          go_wp2_with (go_at_call 12; go_must (refine HK.out.mono ?_; rintro e w8 ⟨rfl, bb⟩; have HB8 := Lib.hid (stepB (stepB HB6.out HB7.out) bb); clear HK bb))
          go_ret
          exact ⟨ret_bool rfl, HB8.out⟩

theorem law8_calls (hs : SolveOk) {w0 : World} {B B2 : Nat → Prop} {v v2 : Value} {S P : List (List Int)} (h : RdSS w0 B v S) (h2 : RdSS w0 B2 v2 P) (n : Int) :
    Calls Try.prog 8 #[.int .i64 n, v, v2] w0 (Yes w0) := by
  rcases ht : tooB n S P [] with _ | _
  · rcases hv : (validB n S && clsB n P) with _ | _
    · exact law8_bad1 hs h h2 n ht hv
    · rcases hp : provesB S P with _ | _
      · exact law8_bad2 hs h h2 n ht hv hp
      · exact law8_good hs h h2 n ht hv hp
  · exact law8_e0 hs h h2 n ht
end Go.Proofs.Ytjbdiobnlmhidaa
