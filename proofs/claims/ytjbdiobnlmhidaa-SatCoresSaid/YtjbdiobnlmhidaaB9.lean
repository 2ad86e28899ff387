/- Proved here: two laws return true: SatCores, SatPropagateMonotone. Conditions: those that each theorem states. -/
import Derived.Test.YtjbdiobnlmhidaaB8
set_option linter.unusedVariables false
set_option linter.unusedSimpArgs false
namespace Go.Proofs.Ytjbdiobnlmhidaa
open Go Go.RowKit

/-- the answer of sat.Solve at a problem that no values satisfy -/
def UnsatPost (w : World) (e : Ending) (w' : World) : Prop := ∃ a1 n1 c1 a2 n2 c2 a3 n3 c3, e = .returned (.tuple #[.agg #[.int .i64 2, .slice a1 n1 c1, .slice a2 n2 c2, .slice a3 n3 c3], .int .i64 0]) ∧ Below w.heap.size w w'
theorem solve_unsat (hs : SolveOk) {w : World} {B B2 : Nat → Prop} {v v2 : Value} {S : List (List Int)} {A : List Int} (h : RdSS w B v S) (h2 : RdS w B2 v2 (ints A)) (n : Int) (hn : n ≤ 14) (hr : ∀ c, c ∈ S → c.length ≤ 30) (hl : A.length ≤ 40) (hv : (validB n S && litsB n A) = true) (hno : ∀ vals, satB vals S A = true → False) :
    Calls Try.prog 23 #[.int .i64 n, v, v2] w (UnsatPost w) := by
  refine (solve_good hs h h2 n hn hr hl hv).mono ?_
  rintro e w' (⟨a1, c1, a2, c2, a3, c3, vs, rfl, -, -, hvs, hb⟩ | ⟨a1, c1, a2, c2, a3, c3, core, P, rfl, -, -, hp, hb⟩)
  · exact absurd hvs (hno vs)
  · exact ⟨_, _, _, _, _, _, _, _, _, rfl, hb⟩
/-- a core and a proof leave no values -/
theorem core_unsat {n : Int} {S P : List (List Int)} {core : List Int} (hS : clsB n S = true) (hc : litsB n core = true) (hP : clsB n P = true) (hp : provesB (unitsL S core) P = true) : ∀ vals, satB vals S core = true → False := fun vals h => by
  have := sat_noproof (n := n) (U := core) h hS hc (fun _ h => h) hP
  rw [hp] at this
  cases this
theorem core_unsat2 {n : Int} {S M P : List (List Int)} {core : List Int} (hS : clsB n S = true) (hc : litsB n core = true) (hP : clsB n P = true) (hp : provesB (unitsL S core) P = true) : ∀ vals, satB vals (unitsL (M ++ S) core) [] = true → False := fun vals h => by
  have h1 := satS h
  have h2 : ∀ c, c ∈ unitsL S core → trueB vals c = true := fun c hcc => h1 c (by
    rcases List.mem_append.1 hcc with hcc | hcc
    · exact List.mem_append_left _ (List.mem_append_right _ hcc)
    · exact List.mem_append_right _ hcc)
  have := proves_sound h2 (units_nz (cls_nz hS) fun x hx => cls_nz (n := n) (S := [core]) (by rw [cls_one]; exact hc) core (by simp) x hx) (cls_nz hP)
  rw [hp] at this
  cases this
theorem valid_app {n : Int} {S M : List (List Int)} (h : validB n S = true) (h2 : validB n M = true) (hs : S.length ≤ 60) (hm : M.length ≤ 40) : validB n (M ++ S) = true := by
  simp only [validB, Bool.and_eq_true, decide_eq_true_eq] at h h2 ⊢
  refine ⟨⟨h.1.1, by simp; omega⟩, ?_⟩
  unfold clsB at *
  rw [List.all_append, Bool.and_eq_true]
  exact ⟨h2.2, h.2⟩
theorem units_rows {S : List (List Int)} {l : List Int} (h : ∀ c, c ∈ S → c.length ≤ 30) : ∀ c, c ∈ unitsL S l → c.length ≤ 30 := fun c hc => by
  rcases List.mem_append.1 hc with hc | hc
  · exact h c hc
  · obtain ⟨x, hx, rfl⟩ := List.mem_map.1 hc
    simp
theorem app_rows {S M : List (List Int)} (h : ∀ c, c ∈ S → c.length ≤ 30) (h2 : ∀ c, c ∈ M → c.length ≤ 30) : ∀ c, c ∈ M ++ S → c.length ≤ 30 := fun c hc => by
  rcases List.mem_append.1 hc with hc | hc
  · exact h2 c hc
  · exact h c hc
/-- an empty slice of slices, newly made behind another block -/
theorem empty_at (w : World) (o : Obj) : OSS (w.alloc o).heap.size ((w.alloc o).alloc (.cells #[] 23)) (.slice (some ⟨w.heap.size + 1, 0, none⟩) 0 0) [] := by
  have h := OSS.empty_new (w.alloc o) (Nat.le_refl _)
  rw [← alloc_size w o]
  exact h

set_option maxHeartbeats 8000000 in
theorem law9_e0 (hs : SolveOk) {w0 : World} {B B2 B3 : Nat → Prop} {v v2 v3 : Value} {S M : List (List Int)} {A : List Int} (h : RdSS w0 B v S) (h2 : RdS w0 B2 v2 (ints A)) (h3 : RdSS w0 B3 v3 M) (n : Int) (hn : 12 < n) :
    Calls Try.prog 9 #[.int .i64 n, v, v2, v3] w0 (Yes w0) := by
  have HT := Lib.hid (large_calls h h3 h2 n)
  obtain ⟨a1, c1, rfl, -⟩ := h.form
  obtain ⟨a2, c2, rfl, -⟩ := h2.form
  obtain ⟨a3, c3, rfl, -⟩ := h3.form
  rw [ints_length] at *
  have HS0 := Lib.hid h
  have HA0 := Lib.hid h2
  have HM0 := Lib.hid h3
  have HB0 := Lib.hid (Below.refl w0.heap.size w0)
  have HK := Lib.hid (awake_yes hs w0)
  clear h h2 h3
  clear HT HS0 HA0 HM0 HB0 hs
  go_enter Try.func9, Try.ntmps9
  go_wp2_with (first | (go_at_call 12; go_must (refine HK.out.mono ?_; rintro e w1 ⟨rfl, bb⟩; have HB1 := Lib.hid bb; clear HK bb)))
  go_ret
  exact ⟨ret_bool rfl, HB1.out⟩

set_option maxHeartbeats 8000000 in
theorem law9_e1 (hs : SolveOk) {w0 : World} {B B2 B3 : Nat → Prop} {v v2 v3 : Value} {S M : List (List Int)} {A : List Int} (h : RdSS w0 B v S) (h2 : RdS w0 B2 v2 (ints A)) (h3 : RdSS w0 B3 v3 M) (n : Int) (hn : ¬ 12 < n) (ht : tooB n S M A = true) :
    Calls Try.prog 9 #[.int .i64 n, v, v2, v3] w0 (Yes w0) := by
  have HT := Lib.hid (large_calls h h3 h2 n)
  obtain ⟨a1, c1, rfl, -⟩ := h.form
  obtain ⟨a2, c2, rfl, -⟩ := h2.form
  obtain ⟨a3, c3, rfl, -⟩ := h3.form
  rw [ints_length] at *
  have HS0 := Lib.hid h
  have HA0 := Lib.hid h2
  have HM0 := Lib.hid h3
  have HB0 := Lib.hid (Below.refl w0.heap.size w0)
  have HK := Lib.hid (awake_yes hs w0)
  clear h h2 h3
  rw [ht] at HT
  clear ht HS0 HA0 HM0 HB0 hs
  go_enter Try.func9, Try.ntmps9
  go_wp2_with (first | (go_at_call 11; go_must (refine HT.out.mono ?_; rintro e wz ⟨rfl, rfl⟩; clear HT)) | (go_at_call 12; go_must (refine HK.out.mono ?_; rintro e w1 ⟨rfl, bb⟩; have HB1 := Lib.hid bb; clear HK bb)))
  go_ret
  exact ⟨ret_bool rfl, HB1.out⟩

set_option maxHeartbeats 8000000 in
theorem law9_e2 (hs : SolveOk) {w0 : World} {B B2 B3 : Nat → Prop} {v v2 v3 : Value} {S M : List (List Int)} {A : List Int} (h : RdSS w0 B v S) (h2 : RdS w0 B2 v2 (ints A)) (h3 : RdSS w0 B3 v3 M) (n : Int) (hn : ¬ 12 < n) (ht : tooB n S M A = false) (hv1 : validB n S = false) :
    Calls Try.prog 9 #[.int .i64 n, v, v2, v3] w0 (Yes w0) := by
  have HT := Lib.hid (large_calls h h3 h2 n)
  obtain ⟨a1, c1, rfl, -⟩ := h.form
  obtain ⟨a2, c2, rfl, -⟩ := h2.form
  obtain ⟨a3, c3, rfl, -⟩ := h3.form
  rw [ints_length] at *
  have HS0 := Lib.hid h
  have HA0 := Lib.hid h2
  have HM0 := Lib.hid h3
  have HB0 := Lib.hid (Below.refl w0.heap.size w0)
  have HK := Lib.hid (awake_yes hs w0)
  clear h h2 h3
  have HT24 := Lib.hid (Clauses_calls HS0.out n)
  rw [hv1] at HT24
  rw [ht] at HT
  clear ht hv1 HS0 HA0 HM0 HB0 hs
  go_enter Try.func9, Try.ntmps9
  go_wp2_with (first | (go_at_call 11; go_must (refine HT.out.mono ?_; rintro e wz ⟨rfl, rfl⟩; clear HT)) | (go_at_call 24; (refine HT24.out.mono ?_; rintro e wz ⟨rfl, rfl⟩; clear HT24)) | (go_at_call 12; go_must (refine HK.out.mono ?_; rintro e w1 ⟨rfl, bb⟩; have HB1 := Lib.hid bb; clear HK bb)))
  go_ret
  exact ⟨ret_bool rfl, HB1.out⟩

set_option maxHeartbeats 8000000 in
theorem law9_e3 (hs : SolveOk) {w0 : World} {B B2 B3 : Nat → Prop} {v v2 v3 : Value} {S M : List (List Int)} {A : List Int} (h : RdSS w0 B v S) (h2 : RdS w0 B2 v2 (ints A)) (h3 : RdSS w0 B3 v3 M) (n : Int) (hn : ¬ 12 < n) (ht : tooB n S M A = false) (hv1 : validB n S = true) (hv2 : litsB n A = false) :
    Calls Try.prog 9 #[.int .i64 n, v, v2, v3] w0 (Yes w0) := by
  have HT := Lib.hid (large_calls h h3 h2 n)
  obtain ⟨a1, c1, rfl, -⟩ := h.form
  obtain ⟨a2, c2, rfl, -⟩ := h2.form
  obtain ⟨a3, c3, rfl, -⟩ := h3.form
  rw [ints_length] at *
  have HS0 := Lib.hid h
  have HA0 := Lib.hid h2
  have HM0 := Lib.hid h3
  have HB0 := Lib.hid (Below.refl w0.heap.size w0)
  have HK := Lib.hid (awake_yes hs w0)
  clear h h2 h3
  have HT24 := Lib.hid (Clauses_calls HS0.out n)
  rw [hv1] at HT24
  have HT25 := Lib.hid (lits_same HA0.out hv1)
  rw [hv2] at HT25
  rw [ht] at HT
  clear ht hv1 hv2 HS0 HA0 HM0 HB0 hs
  go_enter Try.func9, Try.ntmps9
  go_wp2_with (first | (go_at_call 11; go_must (refine HT.out.mono ?_; rintro e wz ⟨rfl, rfl⟩; clear HT)) | (go_at_call 24; (refine HT24.out.mono ?_; rintro e wz ⟨rfl, rfl⟩; clear HT24)) | (go_at_call 25; go_must (refine HT25.out.mono ?_; rintro e wz ⟨rfl, rfl⟩; clear HT25)) | (go_at_call 12; go_must (refine HK.out.mono ?_; rintro e w1 ⟨rfl, bb⟩; have HB1 := Lib.hid bb; clear HK bb)))
  go_ret
  exact ⟨ret_bool rfl, HB1.out⟩

set_option maxHeartbeats 8000000 in
theorem law9_e4 (hs : SolveOk) {w0 : World} {B B2 B3 : Nat → Prop} {v v2 v3 : Value} {S M : List (List Int)} {A : List Int} (h : RdSS w0 B v S) (h2 : RdS w0 B2 v2 (ints A)) (h3 : RdSS w0 B3 v3 M) (n : Int) (hn : ¬ 12 < n) (ht : tooB n S M A = false) (hv1 : validB n S = true) (hv2 : litsB n A = true) (hv3 : validB n M = false) :
    Calls Try.prog 9 #[.int .i64 n, v, v2, v3] w0 (Yes w0) := by
  have HT := Lib.hid (large_calls h h3 h2 n)
  obtain ⟨a1, c1, rfl, -⟩ := h.form
  obtain ⟨a2, c2, rfl, -⟩ := h2.form
  obtain ⟨a3, c3, rfl, -⟩ := h3.form
  rw [ints_length] at *
  have HS0 := Lib.hid h
  have HA0 := Lib.hid h2
  have HM0 := Lib.hid h3
  have HB0 := Lib.hid (Below.refl w0.heap.size w0)
  have HK := Lib.hid (awake_yes hs w0)
  clear h h2 h3
  have HT24 := Lib.hid (Clauses_calls HS0.out n)
  rw [hv1] at HT24
  have HT25 := Lib.hid (lits_same HA0.out hv1)
  rw [hv2] at HT25
  have HT24b := Lib.hid (Clauses_calls HM0.out n)
  rw [hv3] at HT24b
  rw [ht] at HT
  clear ht hv1 hv2 hv3 HS0 HA0 HM0 HB0 hs
  go_enter Try.func9, Try.ntmps9
  go_wp2_with (first | (go_at_call 11; go_must (refine HT.out.mono ?_; rintro e wz ⟨rfl, rfl⟩; clear HT)) | (go_at_call 24; (refine HT24.out.mono ?_; rintro e wz ⟨rfl, rfl⟩; clear HT24)) | (go_at_call 25; go_must (refine HT25.out.mono ?_; rintro e wz ⟨rfl, rfl⟩; clear HT25)) | (go_at_call 24; (refine HT24b.out.mono ?_; rintro e wz ⟨rfl, rfl⟩; clear HT24b)) | (go_at_call 12; go_must (refine HK.out.mono ?_; rintro e w1 ⟨rfl, bb⟩; have HB1 := Lib.hid bb; clear HK bb)))
  go_ret
  exact ⟨ret_bool rfl, HB1.out⟩

set_option maxHeartbeats 8000000 in
theorem law9_good (hs : SolveOk) {w0 : World} {B B2 B3 : Nat → Prop} {v v2 v3 : Value} {S M : List (List Int)} {A : List Int} (h : RdSS w0 B v S) (h2 : RdS w0 B2 v2 (ints A)) (h3 : RdSS w0 B3 v3 M) (n : Int) (hn : ¬ 12 < n) (ht : tooB n S M A = false) (hv1 : validB n S = true) (hv2 : litsB n A = true) (hv3 : validB n M = true) :
    Calls Try.prog 9 #[.int .i64 n, v, v2, v3] w0 (Yes w0) := by
  have HT := Lib.hid (large_calls h h3 h2 n)
  obtain ⟨a1, c1, rfl, -⟩ := h.form
  obtain ⟨a2, c2, rfl, -⟩ := h2.form
  obtain ⟨a3, c3, rfl, -⟩ := h3.form
  rw [ints_length] at *
  have HS0 := Lib.hid h
  have HA0 := Lib.hid h2
  have HM0 := Lib.hid h3
  have HB0 := Lib.hid (Below.refl w0.heap.size w0)
  have HK := Lib.hid (awake_yes hs w0)
  clear h h2 h3
  have HT24 := Lib.hid (Clauses_calls HS0.out n)
  rw [hv1] at HT24
  have HT25 := Lib.hid (lits_same HA0.out hv1)
  rw [hv2] at HT25
  have HT24b := Lib.hid (Clauses_calls HM0.out n)
  rw [hv3] at HT24b
  rw [ht] at HT
  have hz := too_false ht
  have K1 := Lib.hid (solve_good hs HS0.out HA0.out n (by omega) hz.sr hz.al (by rw [hv1, hv2]; rfl))
  clear ht HK
  go_enter Try.func9, Try.ntmps9
  go_wp2_with (first | (go_at_call 11; go_must (refine HT.out.mono ?_; rintro e wz ⟨rfl, rfl⟩; clear HT)) | (go_at_call 24; (refine HT24.out.mono ?_; rintro e wz ⟨rfl, rfl⟩; clear HT24)) | (go_at_call 25; go_must (refine HT25.out.mono ?_; rintro e wz ⟨rfl, rfl⟩; clear HT25)) | (go_at_call 24; (refine HT24b.out.mono ?_; rintro e wz ⟨rfl, rfl⟩; clear HT24b)) | (go_at_call 23; (refine K1.out.mono ?_; rintro e w1 (⟨d1, k1, d2, k2, d3, k3, vals, rfl, rv, hvl, hvs, bb⟩ | ⟨d1, k1, d2, k2, d3, k3, core, P, rfl, rc, rp, hvp, bb⟩); (have hb := stepB bb (al w1 (.cells #[.int .i64 1, .slice d1 vals.length k1, .slice d2 0 k2, .slice d3 0 k3] 38)); have HB1 := Lib.hid (stepB HB0.out hb); have HG1 := Lib.hid (heap_new w1 (.cells #[.int .i64 1, .slice d1 vals.length k1, .slice d2 0 k2, .slice d3 0 k3] 38)); obtain ⟨f0, f1, f2, f3⟩ := box_cell HG1.out; have HK := Lib.hid (awake_yes hs (w1.alloc (.cells #[.int .i64 1, .slice d1 vals.length k1, .slice d2 0 k2, .slice d3 0 k3] 38))); clear rv hvl hvs bb hb K1); rotate_left; (have hb := stepB bb (al w1 (.cells #[.int .i64 2, .slice d1 0 k1, .slice d2 core.length k2, .slice d3 P.length k3] 38)); have HB1 := Lib.hid (stepB HB0.out hb); have HG1 := Lib.hid (heap_new w1 (.cells #[.int .i64 2, .slice d1 0 k1, .slice d2 core.length k2, .slice d3 P.length k3] 38)); obtain ⟨f0, f1, f2, f3⟩ := box_cell HG1.out; have HS1 := Lib.hid (HS0.out.below hb); have HM1 := Lib.hid (HM0.out.below hb); have HR1 := Lib.hid (rc.below (al w1 (.cells #[.int .i64 2, .slice d1 0 k1, .slice d2 core.length k2, .slice d3 P.length k3] 38))); have HVP := Lib.hid hvp; have hcl := chosen_lits hvp.1 hv2; have K2 := Lib.hid (solve_unsat hs HS1.out HR1.out n (by omega) hz.sr (by have := chosen_len hvp.1; have := hz.al; omega) (by rw [hv1, hcl]; rfl) (core_unsat (valid_cls hv1) hcl hvp.2.2.1 hvp.2.1)); have HCL := Lib.hid hcl; clear rc rp hvp bb hb K1 hcl); rotate_right)) | (go_at_call 12; (refine HK.out.mono ?_; rintro e w2 ⟨rfl, bb⟩; have HB2 := Lib.hid (stepB HB1.out bb); clear HK bb)) | (go_at_call 23; (refine K2.out.mono ?_; rintro e w2 ⟨e1, x1, y1, e2, x2, y2, e3, x3, y3, rfl, bb⟩; clear f0 f1 f2 f3; have hb := stepB bb (al w2 (.cells #[.int .i64 2, .slice e1 x1 y1, .slice e2 x2 y2, .slice e3 x3 y3] 38)); have HB2 := Lib.hid (stepB HB1.out hb); have HG2 := Lib.hid (heap_keep HG1.out hb); have HH2 := Lib.hid (heap_new w2 (.cells #[.int .i64 2, .slice e1 x1 y1, .slice e2 x2 y2, .slice e3 x3 y3] 38)); have HS2 := Lib.hid (HS1.out.below hb); have HM2 := Lib.hid (HM1.out.below hb); have HR2 := Lib.hid (HR1.out.below hb); obtain ⟨vm, hm1, hm2⟩ := HM2.out.rows; have KP1 := Lib.hid (And.intro (hm1.below (al (w2.alloc (.cells #[.int .i64 2, .slice e1 x1 y1, .slice e2 x2 y2, .slice e3 x3 y3] 38)) (.cells #[] 23))) (RowsAt.off (empty_at w2 (.cells #[.int .i64 2, .slice e1 x1 y1, .slice e2 x2 y2, .slice e3 x3 y3] 38)) hm2 (Nat.le_refl _) (al (w2.alloc (.cells #[.int .i64 2, .slice e1 x1 y1, .slice e2 x2 y2, .slice e3 x3 y3] 38)) (.cells #[] 23)))); clear hm1 hm2 bb hb K2 HB1 HG1 HS1 HM1 HR1)) | (at_builtin; (refine wpList_pushes (w0 := w2.alloc (.cells #[.int .i64 2, .slice e1 x1 y1, .slice e2 x2 y2, .slice e3 x3 y3] 38)) rfl _ _ rfl _ [] rfl (empty_at w2 (.cells #[.int .i64 2, .slice e1 x1 y1, .slice e2 x2 y2, .slice e3 x3 y3] 38)) (al (w2.alloc (.cells #[.int .i64 2, .slice e1 x1 y1, .slice e2 x2 y2, .slice e3 x3 y3] 38)) (.cells #[] 23)) vm M rfl KP1.out.1 KP1.out.2 (by have := hz.pl; simp; omega) ?_; rintro a4 n4 c4 w4 ho4 hb4 - hn4; clear KP1; obtain ⟨vc, hm1, hm2⟩ := HS2.out.rows; have KP2 := Lib.hid (And.intro ho4 (And.intro hb4 (And.intro (hm1.below hb4) (RowsAt.off ho4 hm2 (Nat.le_refl _) hb4)))); clear ho4 hb4 hn4 hm1 hm2)) | (at_builtin; (refine wpList_pushes (w0 := w2.alloc (.cells #[.int .i64 2, .slice e1 x1 y1, .slice e2 x2 y2, .slice e3 x3 y3] 38)) rfl _ _ rfl _ _ rfl KP2.out.1 KP2.out.2.1 vc S rfl KP2.out.2.2.1 KP2.out.2.2.2 (by have := hz.pl; have := hz.sl; simp; omega) ?_; rintro a5 n5 c5 w5 ho5 hb5 - hn5; clear KP2; have ha5 : RdSS w5 (fun _ => True) (.slice a5 n5 c5) (M ++ S) := ho5.rd; have HB5 := Lib.hid (stepB HB2.out hb5); have HG5 := Lib.hid (heap_keep HG2.out hb5); have HH5 := Lib.hid (heap_keep HH2.out hb5); obtain ⟨f0, f1, f2, f3⟩ := box_cell HG5.out; have K3 := Lib.hid (units_ss ha5 (HR2.out.below hb5) (by have := hz.pl; have := hz.sl; simp; omega) (by have := chosen_len HVP.out.1; have := hz.al; omega)); clear ha5 ho5 hb5 hn5 HB2 HG2 HH2 HS2 HM2 HR2)) | (go_at_call 28; (refine K3.out.mono ?_; rintro e w6 ⟨au, cu, rfl, ru, bb⟩; clear f0 f1 f2 f3; have HB6 := Lib.hid (stepB HB5.out bb); have HH6 := Lib.hid (heap_keep HH5.out bb); have K4 := Lib.hid (solve_unsat hs ru (v2 := .slice none 0 0) (A := []) (B2 := fun _ => True) (.inl ⟨⟨_, rfl⟩, rfl⟩) n (by omega) (units_rows (app_rows hz.sr hz.pr)) (by simp) (by rw [units_valid (valid_app hv1 hv3 hz.sl hz.pl) HCL.out (by have := hz.pl; have := hz.sl; simp; omega) (by have := chosen_len HVP.out.1; have := hz.al; omega)]; rfl) (core_unsat2 (valid_cls hv1) HCL.out HVP.out.2.2.1 HVP.out.2.1)); clear ru bb K3 HB5 HG5 HH5)) | (go_at_call 23; (refine K4.out.mono ?_; rintro e w7 ⟨g1, z1, u1, g2, z2, u2, g3, z3, u3, rfl, bb⟩; have hb := stepB bb (al w7 (.cells #[.int .i64 2, .slice g1 z1 u1, .slice g2 z2 u2, .slice g3 z3 u3] 38)); have HB7 := Lib.hid (stepB HB6.out hb); have HG7 := Lib.hid (heap_new w7 (.cells #[.int .i64 2, .slice g1 z1 u1, .slice g2 z2 u2, .slice g3 z3 u3] 38)); have HH7 := Lib.hid (heap_keep HH6.out hb); obtain ⟨f0, f1, f2, f3⟩ := box_cell HH7.out; obtain ⟨f4, f5, f6, f7⟩ := box_cell HG7.out; have HK7 := Lib.hid (awake_yes hs (w7.alloc (.cells #[.int .i64 2, .slice g1 z1 u1, .slice g2 z2 u2, .slice g3 z3 u3] 38))); clear bb hb K4 HB6 HH6)) | (go_at_call 12; (refine HK7.out.mono ?_; rintro e w8 ⟨rfl, bb⟩; have HB8 := Lib.hid (stepB HB7.out bb); clear HK7 bb)))
  · go_ret
    exact ⟨ret_bool rfl, HB2.out⟩
  · go_ret
    exact ⟨ret_bool rfl, HB8.out⟩

theorem law9_calls (hs : SolveOk) {w0 : World} {B B2 B3 : Nat → Prop} {v v2 v3 : Value} {S M : List (List Int)} {A : List Int} (h : RdSS w0 B v S) (h2 : RdS w0 B2 v2 (ints A)) (h3 : RdSS w0 B3 v3 M) (n : Int) :
    Calls Try.prog 9 #[.int .i64 n, v, v2, v3] w0 (Yes w0) := by
  by_cases hn : 12 < n
  · exact law9_e0 hs h h2 h3 n hn
  · rcases ht : tooB n S M A with _ | _
    · rcases hv1 : validB n S with _ | _
      · exact law9_e2 hs h h2 h3 n hn ht hv1
      · rcases hv2 : litsB n A with _ | _
        · exact law9_e3 hs h h2 h3 n hn ht hv1 hv2
        · rcases hv3 : validB n M with _ | _
          · exact law9_e4 hs h h2 h3 n hn ht hv1 hv2 hv3
          · exact law9_good hs h h2 h3 n hn ht hv1 hv2 hv3
    · exact law9_e1 hs h h2 h3 n hn ht
end Go.Proofs.Ytjbdiobnlmhidaa
namespace Go.Proofs.Ytjbdiobnlmhidaa
open Go Go.RowKit

theorem closeL_mem {n : Nat} {S : List (List Int)} {A : List Int} (hc : confB S A = false) {x : Int} : x ∈ closeL n S A ↔ Der S A x ∧ x ≠ 0 ∧ x.natAbs ≤ n := by
  have hcf : ¬ Conf S A := fun h => by rw [confB_true h] at hc; cases hc
  unfold closeL
  rw [List.mem_filterMap]
  constructor
  · rintro ⟨i, hi, h⟩
    have hi := List.mem_range.1 hi
    by_cases d1 : Der S A ((i + 1 : Nat) : Int)
    · rw [if_pos d1] at h
      cases h
      exact ⟨d1, by omega, by omega⟩
    · rw [if_neg d1] at h
      by_cases d2 : Der S A (-((i + 1 : Nat) : Int))
      · rw [if_pos d2] at h
        cases h
        exact ⟨d2, by omega, by omega⟩
      · rw [if_neg d2] at h; cases h
  · rintro ⟨h, h0, h1⟩
    refine ⟨x.natAbs - 1, List.mem_range.2 (by omega), ?_⟩
    by_cases hp : 0 < x
    · have e : ((x.natAbs - 1 + 1 : Nat) : Int) = x := by omega
      rw [e, if_pos h]
    · have e : ((x.natAbs - 1 + 1 : Nat) : Int) = -x := by omega
      rw [e, if_neg (fun d => hcf (.inl ⟨x, h0, h, d⟩)), Int.neg_neg, if_pos h]
theorem closeL_len {n : Nat} {S : List (List Int)} {A : List Int} : (closeL n S A).length ≤ n := by
  unfold closeL
  exact Nat.le_trans (List.length_filterMap_le _ _) (by simp)
theorem closeL_congr {n : Nat} {S : List (List Int)} {A A' : List Int} (h : ∀ x, Der S A x ↔ Der S A' x) : closeL n S A = closeL n S A' := by
  have e : Der S A = Der S A' := funext fun x => propext (h x)
  unfold closeL
  rw [e]
theorem closeL_der {n : Nat} {S : List (List Int)} {A : List Int} (hc : confB S A = false) (hS : LitsL n S) (hA : Lits n A) (x : Int) : Der S (closeL n S A) x ↔ Der S A x := by
  constructor
  · exact fun h => h.mono (fun _ h => h) fun l hl => ((closeL_mem hc).1 hl).1
  · intro h
    have := h.lit hS hA
    exact .asm ((closeL_mem hc).2 ⟨h, this.1, this.2⟩)
theorem closeL_conf {n : Nat} {S : List (List Int)} {A : List Int} (hc : confB S A = false) : confB S (closeL n S A) = false := by
  refine confB_false fun h => ?_
  rw [confB_true (h.mono (fun _ h => h) fun l hl => ((closeL_mem hc).1 hl).1)] at hc
  cases hc
theorem closeL_lits {n : Nat} {S : List (List Int)} {A : List Int} (hc : confB S A = false) : litsB n (closeL n S A) = true := by
  refine List.all_eq_true.2 fun x hx => ?_
  have := (closeL_mem hc).1 hx
  unfold litB
  simp only [Bool.and_eq_true, bne_iff_ne, decide_eq_true_eq]
  omega
theorem conf_less {S : List (List Int)} {A M : List Int} (hc : confB S (A ++ M) = false) : confB S A = false := by
  refine confB_false fun h => ?_
  rw [confB_true (h.more fun l hl => List.mem_append_left _ hl)] at hc
  cases hc
theorem closeL_more {n : Nat} {S : List (List Int)} {A M : List Int} (hc : confB S (A ++ M) = false) {x : Int} (hx : x ∈ closeL n S A) : x ∈ closeL n S (A ++ M) := by
  have := (closeL_mem (conf_less hc)).1 hx
  exact (closeL_mem hc).2 ⟨this.1.mono (fun _ h => h) fun l hl => .asm (List.mem_append_left _ hl), this.2⟩
theorem lits_app {n : Int} {A M : List Int} (h : litsB n A = true) (h2 : litsB n M = true) : litsB n (A ++ M) = true := by
  unfold litsB at *
  rw [List.all_append, h, h2]; rfl

theorem sprop_yes {w : World} {B B2 : Nat → Prop} {v v2 : Value} {S : List (List Int)} {A : List Int} (h : RdSS w B v S) (h2 : RdS w B2 v2 (ints A)) (n : Int) (hr : ∀ c, c ∈ S → c.length ≤ 30) (hl : A.length ≤ 100000) (hv : validB n S = true) (hv2 : litsB n A = true) (hc : confB S A = false) :
    Calls Try.prog 15 #[.int .i64 n, v, v2] w (RPost w (closeL n.toNat S A) true 0) := by
  have h := sprop h h2 n hr hl
  have e1 : propL n S A = closeL n.toNat S A := by unfold propL; rw [if_pos ⟨hv, hv2, hc⟩]
  have e2 : propOk n S A = true := by unfold propOk; rw [hv, hv2, hc]; rfl
  have e3 : propErr n S A = 0 := by unfold propErr; rw [if_pos ⟨hv, hv2⟩]
  rw [e1, e2, e3] at h
  exact h
theorem sprop_no {w : World} {B B2 : Nat → Prop} {v v2 : Value} {S : List (List Int)} {A : List Int} (h : RdSS w B v S) (h2 : RdS w B2 v2 (ints A)) (n : Int) (hr : ∀ c, c ∈ S → c.length ≤ 30) (hl : A.length ≤ 100000) (hv : validB n S = true) (hv2 : litsB n A = true) (hc : confB S A = true) :
    Calls Try.prog 15 #[.int .i64 n, v, v2] w (RPost w [] false 0) := by
  have h := sprop h h2 n hr hl
  have e1 : propL n S A = [] := by unfold propL; rw [if_neg (fun h => by rw [hc] at h; cases h.2.2)]
  have e2 : propOk n S A = false := by unfold propOk; rw [hv, hv2, hc]; rfl
  have e3 : propErr n S A = 0 := by unfold propErr; rw [if_pos ⟨hv, hv2⟩]
  rw [e1, e2, e3] at h
  exact h
/-- to propagate the result changes nothing -/
theorem sprop_again {w : World} {B B2 : Nat → Prop} {v v2 : Value} {S : List (List Int)} {A : List Int} {n : Int} (h : RdSS w B v S) (h2 : RdS w B2 v2 (ints (closeL n.toNat S A))) (hn : n ≤ 40) (hr : ∀ c, c ∈ S → c.length ≤ 30) (hv : validB n S = true) (hv2 : litsB n A = true) (hc : confB S A = false) :
    Calls Try.prog 15 #[.int .i64 n, v, v2] w (RPost w (closeL n.toNat S A) true 0) := by
  obtain ⟨m, rfl, h1, -, h4⟩ := valid_cases hv
  have e : ((m : Nat) : Int).toNat = m := by omega
  rw [e] at h2
  have hl : (closeL m S A).length ≤ m := closeL_len
  have k := sprop_yes h h2 m hr (by omega) hv (closeL_lits hc) (closeL_conf hc)
  rw [e, closeL_congr (closeL_der hc (litsL_of_B h4) (lits_of_B hv2))] at k
  rw [e]
  exact k
theorem empty_ints (w : World) : (w.alloc (.cells #[] 3)).ownsRow w.heap.size 3 1 (.slice (some ⟨w.heap.size, 0, none⟩) 0 0) ([] : List Value).length [] :=
  ⟨rfl, .inr ⟨w.heap.size, 0, #[], rfl, Nat.le_refl _, by rw [alloc_heap, if_pos rfl], by simp, by simp [maxLen], rfl, rfl⟩⟩
theorem take_contains {m : List Int} {j : Nat} (h : j < m.length) (x : Int) : (m.take (j + 1)).contains x = ((m.take j).contains x || (m.getD j 0 == x)) := by
  rw [← take_oneI h, List.contains_eq_any_beq, List.contains_eq_any_beq, List.any_append]
  simp only [List.any_cons, List.any_nil, Bool.or_false]
  rw [show (x == m.getD j 0) = (m.getD j 0 == x) from BEq.comm]
end Go.Proofs.Ytjbdiobnlmhidaa
namespace Go.Proofs.Ytjbdiobnlmhidaa
open Go Go.RowKit

set_option maxHeartbeats 8000000 in
theorem law10_e0 (hs : SolveOk) {w0 : World} {B B2 B3 : Nat → Prop} {v v2 v3 : Value} {S : List (List Int)} {A M : List Int} (h : RdSS w0 B v S) (h2 : RdS w0 B2 v2 (ints A)) (h3 : RdS w0 B3 v3 (ints M)) (n : Int) (ht : tooB n S [] A = true) :
    Calls Try.prog 10 #[.int .i64 n, v, v2, v3] w0 (Yes w0) := by
  have HT := Lib.hid (large_calls h (v2 := .slice none 0 0) (pp := []) (B2 := fun _ => True) ⟨[], .inl ⟨⟨_, rfl⟩, rfl⟩, rfl, nofun⟩ h2 n)
  obtain ⟨a1, c1, rfl, -⟩ := h.form
  obtain ⟨a2, c2, rfl, -⟩ := h2.form
  obtain ⟨a3, c3, rfl, -⟩ := h3.form
  rw [ints_length] at *
  rw [ints_length] at *
  have HS0 := Lib.hid h
  have HA0 := Lib.hid h2
  have HM0 := Lib.hid h3
  have HB0 := Lib.hid (Below.refl w0.heap.size w0)
  have HK := Lib.hid (awake_yes hs w0)
  clear h h2 h3
  rw [ht] at HT
  clear ht HS0 HA0 HM0 HB0 hs
  go_enter Try.func10, Try.ntmps10
  go_wp2_with (first | (go_at_call 11; go_must (refine HT.out.mono ?_; rintro e wz ⟨rfl, rfl⟩; clear HT)) | (go_at_call 12; go_must (refine HK.out.mono ?_; rintro e w1 ⟨rfl, bb⟩; have HB1 := Lib.hid bb; clear HK bb)))
  go_ret
  exact ⟨ret_bool rfl, HB1.out⟩

set_option maxHeartbeats 8000000 in
theorem law10_e1 (hs : SolveOk) {w0 : World} {B B2 B3 : Nat → Prop} {v v2 v3 : Value} {S : List (List Int)} {A M : List Int} (h : RdSS w0 B v S) (h2 : RdS w0 B2 v2 (ints A)) (h3 : RdS w0 B3 v3 (ints M)) (n : Int) (ht : tooB n S [] A = false) (hm : 40 < M.length) :
    Calls Try.prog 10 #[.int .i64 n, v, v2, v3] w0 (Yes w0) := by
  have HT := Lib.hid (large_calls h (v2 := .slice none 0 0) (pp := []) (B2 := fun _ => True) ⟨[], .inl ⟨⟨_, rfl⟩, rfl⟩, rfl, nofun⟩ h2 n)
  obtain ⟨a1, c1, rfl, -⟩ := h.form
  obtain ⟨a2, c2, rfl, -⟩ := h2.form
  obtain ⟨a3, c3, rfl, -⟩ := h3.form
  rw [ints_length] at *
  rw [ints_length] at *
  have HS0 := Lib.hid h
  have HA0 := Lib.hid h2
  have HM0 := Lib.hid h3
  have HB0 := Lib.hid (Below.refl w0.heap.size w0)
  have HK := Lib.hid (awake_yes hs w0)
  clear h h2 h3
  rw [ht] at HT
  clear ht HS0 HA0 HM0 HB0 hs
  go_enter Try.func10, Try.ntmps10
  go_wp2_with (first | (go_at_call 11; go_must (refine HT.out.mono ?_; rintro e wz ⟨rfl, rfl⟩; clear HT)) | (go_at_call 12; go_must (refine HK.out.mono ?_; rintro e w1 ⟨rfl, bb⟩; have HB1 := Lib.hid bb; clear HK bb)))
  go_ret
  exact ⟨ret_bool rfl, HB1.out⟩

set_option maxHeartbeats 8000000 in
theorem law10_e2 (hs : SolveOk) {w0 : World} {B B2 B3 : Nat → Prop} {v v2 v3 : Value} {S : List (List Int)} {A M : List Int} (h : RdSS w0 B v S) (h2 : RdS w0 B2 v2 (ints A)) (h3 : RdS w0 B3 v3 (ints M)) (n : Int) (ht : tooB n S [] A = false) (hm : ¬ 40 < M.length) (hv1 : validB n S = false) :
    Calls Try.prog 10 #[.int .i64 n, v, v2, v3] w0 (Yes w0) := by
  have HT := Lib.hid (large_calls h (v2 := .slice none 0 0) (pp := []) (B2 := fun _ => True) ⟨[], .inl ⟨⟨_, rfl⟩, rfl⟩, rfl, nofun⟩ h2 n)
  obtain ⟨a1, c1, rfl, -⟩ := h.form
  obtain ⟨a2, c2, rfl, -⟩ := h2.form
  obtain ⟨a3, c3, rfl, -⟩ := h3.form
  rw [ints_length] at *
  rw [ints_length] at *
  have HS0 := Lib.hid h
  have HA0 := Lib.hid h2
  have HM0 := Lib.hid h3
  have HB0 := Lib.hid (Below.refl w0.heap.size w0)
  have HK := Lib.hid (awake_yes hs w0)
  clear h h2 h3
  have HT24 := Lib.hid (Clauses_calls HS0.out n)
  rw [hv1] at HT24
  rw [ht] at HT
  clear ht hv1 HS0 HA0 HM0 HB0 hs
  go_enter Try.func10, Try.ntmps10
  go_wp2_with (first | (go_at_call 11; go_must (refine HT.out.mono ?_; rintro e wz ⟨rfl, rfl⟩; clear HT)) | (go_at_call 24; go_must (refine HT24.out.mono ?_; rintro e wz ⟨rfl, rfl⟩; clear HT24)) | (go_at_call 12; go_must (refine HK.out.mono ?_; rintro e w1 ⟨rfl, bb⟩; have HB1 := Lib.hid bb; clear HK bb)))
  go_ret
  exact ⟨ret_bool rfl, HB1.out⟩

set_option maxHeartbeats 8000000 in
theorem law10_e3 (hs : SolveOk) {w0 : World} {B B2 B3 : Nat → Prop} {v v2 v3 : Value} {S : List (List Int)} {A M : List Int} (h : RdSS w0 B v S) (h2 : RdS w0 B2 v2 (ints A)) (h3 : RdS w0 B3 v3 (ints M)) (n : Int) (ht : tooB n S [] A = false) (hm : ¬ 40 < M.length) (hv1 : validB n S = true) (hv2 : litsB n A = false) :
    Calls Try.prog 10 #[.int .i64 n, v, v2, v3] w0 (Yes w0) := by
  have HT := Lib.hid (large_calls h (v2 := .slice none 0 0) (pp := []) (B2 := fun _ => True) ⟨[], .inl ⟨⟨_, rfl⟩, rfl⟩, rfl, nofun⟩ h2 n)
  obtain ⟨a1, c1, rfl, -⟩ := h.form
  obtain ⟨a2, c2, rfl, -⟩ := h2.form
  obtain ⟨a3, c3, rfl, -⟩ := h3.form
  rw [ints_length] at *
  rw [ints_length] at *
  have HS0 := Lib.hid h
  have HA0 := Lib.hid h2
  have HM0 := Lib.hid h3
  have HB0 := Lib.hid (Below.refl w0.heap.size w0)
  have HK := Lib.hid (awake_yes hs w0)
  clear h h2 h3
  have HT24 := Lib.hid (Clauses_calls HS0.out n)
  rw [hv1] at HT24
  have HT25 := Lib.hid (lits_same HA0.out hv1)
  rw [hv2] at HT25
  rw [ht] at HT
  clear ht hv1 hv2 HS0 HA0 HM0 HB0 hs
  go_enter Try.func10, Try.ntmps10
  go_wp2_with (first | (go_at_call 11; go_must (refine HT.out.mono ?_; rintro e wz ⟨rfl, rfl⟩; clear HT)) | (go_at_call 24; go_must (refine HT24.out.mono ?_; rintro e wz ⟨rfl, rfl⟩; clear HT24)) | (go_at_call 25; (refine HT25.out.mono ?_; rintro e wz ⟨rfl, rfl⟩; clear HT25)) | (go_at_call 12; go_must (refine HK.out.mono ?_; rintro e w1 ⟨rfl, bb⟩; have HB1 := Lib.hid bb; clear HK bb)))
  go_ret
  exact ⟨ret_bool rfl, HB1.out⟩

set_option maxHeartbeats 8000000 in
theorem law10_e4 (hs : SolveOk) {w0 : World} {B B2 B3 : Nat → Prop} {v v2 v3 : Value} {S : List (List Int)} {A M : List Int} (h : RdSS w0 B v S) (h2 : RdS w0 B2 v2 (ints A)) (h3 : RdS w0 B3 v3 (ints M)) (n : Int) (ht : tooB n S [] A = false) (hm : ¬ 40 < M.length) (hv1 : validB n S = true) (hv2 : litsB n A = true) (hv3 : litsB n M = false) :
    Calls Try.prog 10 #[.int .i64 n, v, v2, v3] w0 (Yes w0) := by
  have HT := Lib.hid (large_calls h (v2 := .slice none 0 0) (pp := []) (B2 := fun _ => True) ⟨[], .inl ⟨⟨_, rfl⟩, rfl⟩, rfl, nofun⟩ h2 n)
  obtain ⟨a1, c1, rfl, -⟩ := h.form
  obtain ⟨a2, c2, rfl, -⟩ := h2.form
  obtain ⟨a3, c3, rfl, -⟩ := h3.form
  rw [ints_length] at *
  rw [ints_length] at *
  have HS0 := Lib.hid h
  have HA0 := Lib.hid h2
  have HM0 := Lib.hid h3
  have HB0 := Lib.hid (Below.refl w0.heap.size w0)
  have HK := Lib.hid (awake_yes hs w0)
  clear h h2 h3
  have HT24 := Lib.hid (Clauses_calls HS0.out n)
  rw [hv1] at HT24
  have HT25 := Lib.hid (lits_same HA0.out hv1)
  rw [hv2] at HT25
  have HT25b := Lib.hid (lits_same HM0.out hv1)
  rw [hv3] at HT25b
  rw [ht] at HT
  clear ht hv1 hv2 hv3 HS0 HA0 HM0 HB0 hs
  go_enter Try.func10, Try.ntmps10
  go_wp2_with (first | (go_at_call 11; go_must (refine HT.out.mono ?_; rintro e wz ⟨rfl, rfl⟩; clear HT)) | (go_at_call 24; go_must (refine HT24.out.mono ?_; rintro e wz ⟨rfl, rfl⟩; clear HT24)) | (go_at_call 25; (refine HT25.out.mono ?_; rintro e wz ⟨rfl, rfl⟩; clear HT25)) | (go_at_call 25; (refine HT25b.out.mono ?_; rintro e wz ⟨rfl, rfl⟩; clear HT25b)) | (go_at_call 12; go_must (refine HK.out.mono ?_; rintro e w1 ⟨rfl, bb⟩; have HB1 := Lib.hid bb; clear HK bb)))
  go_ret
  exact ⟨ret_bool rfl, HB1.out⟩

set_option maxHeartbeats 8000000 in
theorem law10_g11 (hs : SolveOk) {w0 : World} {B B2 B3 : Nat → Prop} {v v2 v3 : Value} {S : List (List Int)} {A M : List Int} (h : RdSS w0 B v S) (h2 : RdS w0 B2 v2 (ints A)) (h3 : RdS w0 B3 v3 (ints M)) (n : Int) (ht : tooB n S [] A = false) (hm : ¬ 40 < M.length) (hv1 : validB n S = true) (hv2 : litsB n A = true) (hv3 : litsB n M = true) (hca : confB S A = true) (hcm : confB S (A ++ M) = true) :
    Calls Try.prog 10 #[.int .i64 n, v, v2, v3] w0 (Yes w0) := by
  have HT := Lib.hid (large_calls h (v2 := .slice none 0 0) (pp := []) (B2 := fun _ => True) ⟨[], .inl ⟨⟨_, rfl⟩, rfl⟩, rfl, nofun⟩ h2 n)
  obtain ⟨a1, c1, rfl, -⟩ := h.form
  obtain ⟨a2, c2, rfl, -⟩ := h2.form
  obtain ⟨a3, c3, rfl, -⟩ := h3.form
  rw [ints_length] at *
  rw [ints_length] at *
  have HS0 := Lib.hid h
  have HA0 := Lib.hid h2
  have HM0 := Lib.hid h3
  have HB0 := Lib.hid (Below.refl w0.heap.size w0)
  have HK := Lib.hid (awake_yes hs w0)
  clear h h2 h3
  have HT24 := Lib.hid (Clauses_calls HS0.out n)
  rw [hv1] at HT24
  have HT25 := Lib.hid (lits_same HA0.out hv1)
  rw [hv2] at HT25
  have HT25b := Lib.hid (lits_same HM0.out hv1)
  rw [hv3] at HT25b
  rw [ht] at HT
  have hz := too_false ht
  have hal := hz.al
  have K1 := Lib.hid (sprop_no HS0.out HA0.out n hz.sr (by omega) hv1 hv2 hca)
  clear ht HK
  go_enter Try.func10, Try.ntmps10
  go_wp2_with (first | (go_at_call 11; go_must (refine HT.out.mono ?_; rintro e wz ⟨rfl, rfl⟩; clear HT)) | (go_at_call 24; go_must (refine HT24.out.mono ?_; rintro e wz ⟨rfl, rfl⟩; clear HT24)) | (go_at_call 25; (refine HT25.out.mono ?_; rintro e wz ⟨rfl, rfl⟩; clear HT25)) | (go_at_call 25; (refine HT25b.out.mono ?_; rintro e wz ⟨rfl, rfl⟩; clear HT25b)) | (go_at_call 15; (refine K1.out.mono ?_; rintro e w1 ⟨al, cl, rfl, ro, bb⟩; have HB1 := Lib.hid (stepB HB0.out bb); have HS1 := Lib.hid (HS0.out.below bb); have HA1 := Lib.hid (HA0.out.below bb); have HM1 := Lib.hid (HM0.out.below bb); have HL1 := Lib.hid ro; clear bb ro K1 HB0 HS0 HA0 HM0)) | (at_builtin; (refine wpList_app_any (w0 := w1) Try.underlying23 info3 rfl rfl _ _ rfl _ [] rfl (empty_ints w1) (Go.Proofs.Ytjbdiobnlmhidaa.al w1 (.cells #[] 3)) (ints A) rfl (HA1.out.below (Go.Proofs.Ytjbdiobnlmhidaa.al w1 (.cells #[] 3))) (ints_one A) (by omega) (by simp; omega) ?_; rintro a4 n4 c4 w4 ho4 hb4 - - hn4; have KP := Lib.hid (And.intro ho4 hb4); clear ho4 hb4 hn4)) | (at_builtin; (refine wpList_app_any (w0 := w1) Try.underlying23 info3 rfl rfl _ _ rfl _ _ rfl KP.out.1 KP.out.2 (ints M) rfl (HM1.out.below KP.out.2) (ints_one M) (by omega) (by simp; omega) ?_; rintro a5 n5 c5 w5 ho5 hb5 - - hn5; clear KP; rw [List.nil_append, ints_append] at ho5; have HB5 := Lib.hid (stepB HB1.out hb5); have HS5 := Lib.hid (HS1.out.below hb5); have HL5 := Lib.hid (HL1.out.below hb5); have K2 := Lib.hid (sprop_no (HS1.out.below hb5) (RdS.of_row ho5) n hz.sr (by simp; omega) hv1 (lits_app hv2 hv3) hcm); clear ho5 hb5 hn5 HB1 HS1 HA1 HM1 HL1)) | (go_at_call 15; (refine K2.out.mono ?_; rintro e w6 ⟨am, cM, rfl, ro, bb⟩; have HB6 := Lib.hid (stepB HB5.out bb); have HK6 := Lib.hid (awake_yes hs w6); clear bb ro K2 HB5 HS5 HL5)) | (go_at_call 12; (refine HK6.out.mono ?_; rintro e w7 ⟨rfl, bb⟩; have HB7 := Lib.hid (stepB HB6.out bb); clear HK6 bb)))
  go_ret
  exact ⟨ret_bool rfl, HB7.out⟩

set_option maxHeartbeats 8000000 in
theorem law10_g01 (hs : SolveOk) {w0 : World} {B B2 B3 : Nat → Prop} {v v2 v3 : Value} {S : List (List Int)} {A M : List Int} (h : RdSS w0 B v S) (h2 : RdS w0 B2 v2 (ints A)) (h3 : RdS w0 B3 v3 (ints M)) (n : Int) (ht : tooB n S [] A = false) (hm : ¬ 40 < M.length) (hv1 : validB n S = true) (hv2 : litsB n A = true) (hv3 : litsB n M = true) (hca : confB S A = false) (hcm : confB S (A ++ M) = true) :
    Calls Try.prog 10 #[.int .i64 n, v, v2, v3] w0 (Yes w0) := by
  have HT := Lib.hid (large_calls h (v2 := .slice none 0 0) (pp := []) (B2 := fun _ => True) ⟨[], .inl ⟨⟨_, rfl⟩, rfl⟩, rfl, nofun⟩ h2 n)
  obtain ⟨a1, c1, rfl, -⟩ := h.form
  obtain ⟨a2, c2, rfl, -⟩ := h2.form
  obtain ⟨a3, c3, rfl, -⟩ := h3.form
  rw [ints_length] at *
  rw [ints_length] at *
  have HS0 := Lib.hid h
  have HA0 := Lib.hid h2
  have HM0 := Lib.hid h3
  have HB0 := Lib.hid (Below.refl w0.heap.size w0)
  have HK := Lib.hid (awake_yes hs w0)
  clear h h2 h3
  have HT24 := Lib.hid (Clauses_calls HS0.out n)
  rw [hv1] at HT24
  have HT25 := Lib.hid (lits_same HA0.out hv1)
  rw [hv2] at HT25
  have HT25b := Lib.hid (lits_same HM0.out hv1)
  rw [hv3] at HT25b
  rw [ht] at HT
  have hz := too_false ht
  have hal := hz.al
  have K1 := Lib.hid (sprop_yes HS0.out HA0.out n hz.sr (by omega) hv1 hv2 hca)
  clear ht HK
  go_enter Try.func10, Try.ntmps10
  go_wp2_with (first | (go_at_call 11; go_must (refine HT.out.mono ?_; rintro e wz ⟨rfl, rfl⟩; clear HT)) | (go_at_call 24; go_must (refine HT24.out.mono ?_; rintro e wz ⟨rfl, rfl⟩; clear HT24)) | (go_at_call 25; (refine HT25.out.mono ?_; rintro e wz ⟨rfl, rfl⟩; clear HT25)) | (go_at_call 25; (refine HT25b.out.mono ?_; rintro e wz ⟨rfl, rfl⟩; clear HT25b)) | (go_at_call 15; (refine K1.out.mono ?_; rintro e w1 ⟨al, cl, rfl, ro, bb⟩; have HB1 := Lib.hid (stepB HB0.out bb); have HS1 := Lib.hid (HS0.out.below bb); have HA1 := Lib.hid (HA0.out.below bb); have HM1 := Lib.hid (HM0.out.below bb); have HL1 := Lib.hid ro; clear bb ro K1 HB0 HS0 HA0 HM0)) | (at_builtin; (refine wpList_app_any (w0 := w1) Try.underlying23 info3 rfl rfl _ _ rfl _ [] rfl (empty_ints w1) (Go.Proofs.Ytjbdiobnlmhidaa.al w1 (.cells #[] 3)) (ints A) rfl (HA1.out.below (Go.Proofs.Ytjbdiobnlmhidaa.al w1 (.cells #[] 3))) (ints_one A) (by omega) (by simp; omega) ?_; rintro a4 n4 c4 w4 ho4 hb4 - - hn4; have KP := Lib.hid (And.intro ho4 hb4); clear ho4 hb4 hn4)) | (at_builtin; (refine wpList_app_any (w0 := w1) Try.underlying23 info3 rfl rfl _ _ rfl _ _ rfl KP.out.1 KP.out.2 (ints M) rfl (HM1.out.below KP.out.2) (ints_one M) (by omega) (by simp; omega) ?_; rintro a5 n5 c5 w5 ho5 hb5 - - hn5; clear KP; rw [List.nil_append, ints_append] at ho5; have HB5 := Lib.hid (stepB HB1.out hb5); have HS5 := Lib.hid (HS1.out.below hb5); have HL5 := Lib.hid (HL1.out.below hb5); have K2 := Lib.hid (sprop_no (HS1.out.below hb5) (RdS.of_row ho5) n hz.sr (by simp; omega) hv1 (lits_app hv2 hv3) hcm); clear ho5 hb5 hn5 HB1 HS1 HA1 HM1 HL1)) | (go_at_call 15; (refine K2.out.mono ?_; rintro e w6 ⟨am, cM, rfl, ro, bb⟩; have HB6 := Lib.hid (stepB HB5.out bb); have HK6 := Lib.hid (awake_yes hs w6); clear bb ro K2 HB5 HS5 HL5)) | (go_at_call 12; (refine HK6.out.mono ?_; rintro e w7 ⟨rfl, bb⟩; have HB7 := Lib.hid (stepB HB6.out bb); clear HK6 bb)))
  go_ret
  exact ⟨ret_bool rfl, HB7.out⟩

set_option maxHeartbeats 8000000 in
theorem law10_g00 (hs : SolveOk) {w0 : World} {B B2 B3 : Nat → Prop} {v v2 v3 : Value} {S : List (List Int)} {A M : List Int} (h : RdSS w0 B v S) (h2 : RdS w0 B2 v2 (ints A)) (h3 : RdS w0 B3 v3 (ints M)) (n : Int) (ht : tooB n S [] A = false) (hm : ¬ 40 < M.length) (hv1 : validB n S = true) (hv2 : litsB n A = true) (hv3 : litsB n M = true) (hca : confB S A = false) (hcm : confB S (A ++ M) = false) :
    Calls Try.prog 10 #[.int .i64 n, v, v2, v3] w0 (Yes w0) := by
  have HT := Lib.hid (large_calls h (v2 := .slice none 0 0) (pp := []) (B2 := fun _ => True) ⟨[], .inl ⟨⟨_, rfl⟩, rfl⟩, rfl, nofun⟩ h2 n)
  obtain ⟨a1, c1, rfl, -⟩ := h.form
  obtain ⟨a2, c2, rfl, -⟩ := h2.form
  obtain ⟨a3, c3, rfl, -⟩ := h3.form
  rw [ints_length] at *
  rw [ints_length] at *
  have HS0 := Lib.hid h
  have HA0 := Lib.hid h2
  have HM0 := Lib.hid h3
  have HB0 := Lib.hid (Below.refl w0.heap.size w0)
  have HK := Lib.hid (awake_yes hs w0)
  clear h h2 h3
  have HT24 := Lib.hid (Clauses_calls HS0.out n)
  rw [hv1] at HT24
  have HT25 := Lib.hid (lits_same HA0.out hv1)
  rw [hv2] at HT25
  have HT25b := Lib.hid (lits_same HM0.out hv1)
  rw [hv3] at HT25b
  rw [ht] at HT
  have hz := too_false ht
  have hal := hz.al
  have K1 := Lib.hid (sprop_yes HS0.out HA0.out n hz.sr (by omega) hv1 hv2 hca)
  clear ht HK
  go_enter Try.func10, Try.ntmps10
  go_wp2_with (first | (go_at_call 11; go_must (refine HT.out.mono ?_; rintro e wz ⟨rfl, rfl⟩; clear HT)) | (go_at_call 24; go_must (refine HT24.out.mono ?_; rintro e wz ⟨rfl, rfl⟩; clear HT24)) | (go_at_call 25; (refine HT25.out.mono ?_; rintro e wz ⟨rfl, rfl⟩; clear HT25)) | (go_at_call 25; (refine HT25b.out.mono ?_; rintro e wz ⟨rfl, rfl⟩; clear HT25b)) | (go_at_call 15; (refine K1.out.mono ?_; rintro e w1 ⟨al, cl, rfl, ro, bb⟩; have HB1 := Lib.hid (stepB HB0.out bb); have HS1 := Lib.hid (HS0.out.below bb); have HA1 := Lib.hid (HA0.out.below bb); have HM1 := Lib.hid (HM0.out.below bb); have HL1 := Lib.hid ro; clear bb ro K1 HB0 HS0 HA0 HM0)) | (at_builtin; (refine wpList_app_any (w0 := w1) Try.underlying23 info3 rfl rfl _ _ rfl _ [] rfl (empty_ints w1) (Go.Proofs.Ytjbdiobnlmhidaa.al w1 (.cells #[] 3)) (ints A) rfl (HA1.out.below (Go.Proofs.Ytjbdiobnlmhidaa.al w1 (.cells #[] 3))) (ints_one A) (by omega) (by simp; omega) ?_; rintro a4 n4 c4 w4 ho4 hb4 - - hn4; have KP := Lib.hid (And.intro ho4 hb4); clear ho4 hb4 hn4)) | (at_builtin; (refine wpList_app_any (w0 := w1) Try.underlying23 info3 rfl rfl _ _ rfl _ _ rfl KP.out.1 KP.out.2 (ints M) rfl (HM1.out.below KP.out.2) (ints_one M) (by omega) (by simp; omega) ?_; rintro a5 n5 c5 w5 ho5 hb5 - - hn5; clear KP; rw [List.nil_append, ints_append] at ho5; have HB5 := Lib.hid (stepB HB1.out hb5); have HS5 := Lib.hid (HS1.out.below hb5); have HL5 := Lib.hid (HL1.out.below hb5); have K2 := Lib.hid (sprop_yes (HS1.out.below hb5) (RdS.of_row ho5) n hz.sr (by simp; omega) hv1 (lits_app hv2 hv3) hcm); clear ho5 hb5 hn5 HB1 HS1 HA1 HM1 HL1)) | (go_at_call 15; (refine K2.out.mono ?_; rintro e w6 ⟨am, cM, rfl, ro, bb⟩; have HB6 := Lib.hid (stepB HB5.out bb); have HL6 := Lib.hid (HL5.out.below bb); have HM6 := Lib.hid ro; have K3 := Lib.hid (sprop_again (HS5.out.below bb) HL6.out hz.n hz.sr hv1 hv2 hca); clear bb ro K2 HB5 HS5 HL5)) | (go_at_call 15; (refine K3.out.mono ?_; rintro e w7 ⟨an, cn, rfl, ro, bb⟩; have HB7 := Lib.hid (stepB HB6.out bb); have HL7 := Lib.hid (HL6.out.below bb); have HM7 := Lib.hid (HM6.out.below bb); have K4 := Lib.hid (ints_yes ro HL7.out); clear bb ro K3 HB6 HL6 HM6)) | (go_at_call 17; (refine K4.out.mono ?_; rintro e w8 ⟨rfl, bb⟩; have HB8 := Lib.hid (stepB HB7.out bb); have HL8 := Lib.hid (HL7.out.below bb); have HM8 := Lib.hid (HM7.out.below bb); clear bb K4 HB7 HL7 HM7)))
  have HSUB : Hid (∀ x, x ∈ closeL n.toNat S A → x ∈ closeL n.toNat S (A ++ M)) := fun x hx => closeL_more hcm hx
  have hl1 : (closeL n.toNat S A).length ≤ 40 := Nat.le_trans closeL_len (by have := hz.n; omega)
  have hm1 : (closeL n.toNat S (A ++ M)).length ≤ 40 := Nat.le_trans closeL_len (by have := hz.n; omega)
  clear hca hcm hm hal hv1 hv2 hv3 hz
  generalize closeL n.toNat S A = l at *
  generalize closeL n.toNat S (A ++ M) = m at *
  go_loopg [19] l.length (fun kq v19 w' => ∃ i : Nat, v19 = .int .i64 i ∧ i + kq = l.length ∧ Hid (Below w8.heap.size w8 w'))
  case atStart => exact ⟨0, rfl, by omega, Below.refl _ _⟩
  case round =>
    obtain ⟨i, rfl, hi, HB9⟩ := hrel
    by_cases hlt : i < l.length
    · have HX : Hid (l.getD i 0 ∈ m) := HSUB.out _ (getD_mem (d := 0) hlt)
      obtain ⟨b, o, rfl, kcell0, -, -⟩ := (HL8.out.below HB9.out).at hlt
      have HXC : Hid (∀ w', Below w8.heap.size w8 w' → w'.cell? ⟨b, o + i, none⟩ = some (.int .i64 (l.getD i 0))) := fun w' hb => by
        obtain ⟨b', o', e, k, -, -⟩ := (HL8.out.below hb).at hlt
        cases e
        exact k
      generalize l.getD i 0 = x at *
      clear kcell0
      go_wp2_with fail
      obtain ⟨ko, hko⟩ : ∃ ko : Nat, ko = gk := ⟨_, rfl⟩
      go_loopg [20, 21] m.length (fun kq v20 v21 w' => ∃ j : Nat, v21 = .int .i64 j ∧ j + kq = m.length ∧ v20 = .bool ((m.take j).contains x) ∧ Hid (Below w8.heap.size w8 w'))
      case atStart => exact ⟨0, rfl, by omega, by simp, HB9⟩
      case round =>
        obtain ⟨j, rfl, hj, rfl, HB10⟩ := hrel
        by_cases hltj : j < m.length
        · obtain ⟨b2, o2, rfl, kcell2, -, -⟩ := (HM8.out.below HB10.out).at hltj
          have kcell := HXC.out _ HB10.out
          have HTC := Lib.hid (take_contains hltj x)
          rcases hq : (m.take j).contains x with _ | _
          · by_cases hxy : m.getD j 0 = x
            · have bxy : (m.getD j 0 == x) = true := by simp only [beq_iff_eq]; exact hxy
              have HN : Hid ((m.take (j + 1)).contains x = true) := by show _ = _; rw [HTC.out, hq, bxy]; rfl
              generalize m.getD j 0 = y at *
              clear HTC hq hxy HB9
              go_wp2_with fail
              go_quiet (fail)
              go_wp2
              go_roundg (gk - 1)
              case measure => omega
              case rel => exact ⟨j + 1, by go_num, by omega, by rw [HN.out], HB10.out.trans ⟨rfl, rfl, rfl, Nat.le_refl _, fun _ _ => rfl⟩⟩
            · have bxy : (m.getD j 0 == x) = false := by simp only [beq_eq_false_iff_ne]; exact hxy
              have HN : Hid ((m.take (j + 1)).contains x = false) := by show _ = _; rw [HTC.out, hq, bxy]; rfl
              generalize m.getD j 0 = y at *
              clear HTC hq hxy HB9
              go_wp2_with fail
              go_quiet (fail)
              go_wp2
              go_roundg (gk - 1)
              case measure => omega
              case rel => exact ⟨j + 1, by go_num, by omega, by rw [HN.out], HB10.out.trans ⟨rfl, rfl, rfl, Nat.le_refl _, fun _ _ => rfl⟩⟩
          · have HN : Hid ((m.take (j + 1)).contains x = true) := by show _ = _; rw [HTC.out, hq]; rfl
            clear HTC hq HB9
            go_wp2_with fail
            go_quiet (fail)
            go_wp2
            go_roundg (gk - 1)
            case measure => omega
            case rel => exact ⟨j + 1, by go_num, by omega, by rw [HN.out], HB10.out.trans ⟨rfl, rfl, rfl, Nat.le_refl _, fun _ _ => rfl⟩⟩
        · obtain rfl : j = m.length := by omega
          have hcx : (m.take m.length).contains x = true := by rw [List.take_length]; simpa using HX.out
          rw [hcx]
          clear HB9 hcx
          go_wp2_with fail
          go_roundg (ko - 1)
          case measure => omega
          case rel => exact ⟨i + 1, by go_num, by omega, HB10⟩
    · obtain rfl : i = l.length := by omega
      have HK := Lib.hid (awake_yes hs wr)
      go_wp2_with (go_at_call 12; go_must (refine HK.out.mono ?_; rintro e w9 ⟨rfl, bb⟩; have HB10 := Lib.hid (stepB (stepB HB8.out HB9.out) bb); clear HK bb))
      go_ret
      exact ⟨ret_bool rfl, HB10.out⟩

theorem law10_calls (hs : SolveOk) {w0 : World} {B B2 B3 : Nat → Prop} {v v2 v3 : Value} {S : List (List Int)} {A M : List Int} (h : RdSS w0 B v S) (h2 : RdS w0 B2 v2 (ints A)) (h3 : RdS w0 B3 v3 (ints M)) (n : Int) :
    Calls Try.prog 10 #[.int .i64 n, v, v2, v3] w0 (Yes w0) := by
  rcases ht : tooB n S [] A with _ | _
  · by_cases hm : 40 < M.length
    · exact law10_e1 hs h h2 h3 n ht hm
    · rcases hv1 : validB n S with _ | _
      · exact law10_e2 hs h h2 h3 n ht hm hv1
      · rcases hv2 : litsB n A with _ | _
        · exact law10_e3 hs h h2 h3 n ht hm hv1 hv2
        · rcases hv3 : litsB n M with _ | _
          · exact law10_e4 hs h h2 h3 n ht hm hv1 hv2 hv3
          · rcases hcm : confB S (A ++ M) with _ | _
            · exact law10_g00 hs h h2 h3 n ht hm hv1 hv2 hv3 (conf_less hcm) hcm
            · rcases hca : confB S A with _ | _
              · exact law10_g01 hs h h2 h3 n ht hm hv1 hv2 hv3 hca hcm
              · exact law10_g11 hs h h2 h3 n ht hm hv1 hv2 hv3 hca hcm
  · exact law10_e0 hs h h2 h3 n ht
end Go.Proofs.Ytjbdiobnlmhidaa
