/- Proved here: the sanity check of the laws returns true. Conditions: those that each theorem states. -/
import Derived.Test.YtjbdiobnlmhidaaA6
import Derived.Test.YtjbdiobnlmhidaaA5
import Derived.Test.YtjbdiobnlmhidaaA7
import Derived.Test.YtjbdiobnlmhidaaB5
import Derived.Test.YtjbdiobnlmhidaaA8
set_option linter.unusedVariables false
set_option linter.unusedSimpArgs false
namespace Go.Proofs.Ytjbdiobnlmhidaa
open Go Go.RowKit

theorem trueL_neg {vals : List Bool} {x : Int} (h : x ≠ 0) : trueL vals (-x) = !trueL vals x := by
  unfold trueL
  rw [Int.natAbs_neg]
  have e : decide (0 < -x) = !decide (0 < x) := by
    by_cases h1 : 0 < x
    · simp [h1]; omega
    · simp [h1]; omega
  rw [e]
  cases vals.getD (x.natAbs - 1) false <;> cases decide (0 < x) <;> rfl

theorem trueB_mem {vals : List Bool} {c : List Int} : trueB vals c = true ↔ ∃ x, x ∈ c ∧ trueL vals x = true := by
  unfold trueB; rw [List.any_eq_true]

/-- what is derived is true under values that satisfy everything -/
theorem Der.sound {S : List (List Int)} {A : List Int} {vals : List Bool} (hS : ∀ c, c ∈ S → trueB vals c = true) (hz : ∀ c, c ∈ S → ∀ x, x ∈ c → x ≠ 0) (hA : ∀ x, x ∈ A → trueL vals x = true) {l : Int} (h : Der S A l) : trueL vals l = true := by
  induction h with
  | asm h => exact hA _ h
  | @uni c l hc hl _ ih =>
    obtain ⟨m, hm, ht⟩ := trueB_mem.1 (hS c hc)
    by_cases e : m = l
    · rw [← e]; exact ht
    · have := ih m hm e
      rw [trueL_neg (hz c hc m hm), ht] at this
      cases this
theorem Conf.sound {S : List (List Int)} {A : List Int} {vals : List Bool} (hS : ∀ c, c ∈ S → trueB vals c = true) (hz : ∀ c, c ∈ S → ∀ x, x ∈ c → x ≠ 0) (hA : ∀ x, x ∈ A → trueL vals x = true) : ¬ Conf S A := by
  rintro (⟨l, h0, h1, h2⟩ | ⟨c, hc, h⟩)
  · have e1 := h1.sound hS hz hA
    have e2 := h2.sound hS hz hA
    rw [trueL_neg h0, e1] at e2
    cases e2
  · obtain ⟨m, hm, ht⟩ := trueB_mem.1 (hS c hc)
    have := (h m hm).sound hS hz hA
    rw [trueL_neg (hz c hc m hm), ht] at this
    cases this
theorem rup_sound {S : List (List Int)} {c : List Int} {vals : List Bool} (hS : ∀ c, c ∈ S → trueB vals c = true) (hz : ∀ c, c ∈ S → ∀ x, x ∈ c → x ≠ 0) (hc : ∀ x, x ∈ c → x ≠ 0) (h : rupB S c = true) : trueB vals c = true := by
  refine Classical.byContradiction fun hn => ?_
  refine Conf.sound hS hz (fun x hx => ?_) (rupB_iff.1 h)
  obtain ⟨y, hy, rfl⟩ := List.mem_map.1 hx
  rw [trueL_neg (hc y hy)]
  rcases e : trueL vals y with _ | _
  · rfl
  · exact absurd (trueB_mem.2 ⟨y, hy, e⟩) hn
theorem rupAll_sound {vals : List Bool} : ∀ (P S : List (List Int)), (∀ c, c ∈ S → trueB vals c = true) → (∀ c, c ∈ S → ∀ x, x ∈ c → x ≠ 0) → (∀ c, c ∈ P → ∀ x, x ∈ c → x ≠ 0) → rupAll S P = true → ∀ c, c ∈ P → trueB vals c = true := by
  intro P
  induction P with
  | nil => intro S _ _ _ _ c hc; cases hc
  | cons d r ih =>
    intro S hS hz hP h c hc
    unfold rupAll at h
    rw [Bool.and_eq_true] at h
    have hd := rup_sound hS hz (hP d (by simp)) h.1
    rcases List.mem_cons.1 hc with rfl | hc
    · exact hd
    · refine ih (S ++ [d]) (fun x hx => ?_) (fun x hx => ?_) (fun x hx => hP x (by simp [hx])) h.2 c hc
      · rcases List.mem_append.1 hx with hx | hx
        · exact hS x hx
        · rw [List.mem_singleton.1 hx]; exact hd
      · rcases List.mem_append.1 hx with hx | hx
        · exact hz x hx
        · rw [List.mem_singleton.1 hx]; exact hP d (by simp)
theorem lastB_mem {P : List (List Int)} (h : lastB P = true) : ([] : List Int) ∈ P := by
  unfold lastB at h
  simp only [Bool.and_eq_true, decide_eq_true_eq] at h
  have h1 : P.length - 1 < P.length := by omega
  have := getD_mem (d := ([] : List Int)) h1
  rwa [List.length_eq_zero_iff.1 h.2] at this
theorem proves_sound {S P : List (List Int)} {vals : List Bool} (hS : ∀ c, c ∈ S → trueB vals c = true) (hz : ∀ c, c ∈ S → ∀ x, x ∈ c → x ≠ 0) (hP : ∀ c, c ∈ P → ∀ x, x ∈ c → x ≠ 0) : provesB S P = false := by
  rcases e : provesB S P with _ | _
  · rfl
  · unfold provesB at e
    rw [Bool.and_eq_true] at e
    have := rupAll_sound P S hS hz hP e.2 [] (lastB_mem e.1)
    cases this

theorem cls_nz {n : Int} {S : List (List Int)} (h : clsB n S = true) : ∀ c, c ∈ S → ∀ x, x ∈ c → x ≠ 0 := fun c hc x hx => by
  have := List.all_eq_true.1 (List.all_eq_true.1 h c hc) x hx
  simp only [litB, Bool.and_eq_true, bne_iff_ne, decide_eq_true_eq] at this
  exact this.1.1
theorem valid_cls {n : Int} {S : List (List Int)} (h : validB n S = true) : clsB n S = true := by
  simp only [validB, Bool.and_eq_true] at h
  exact h.2
theorem units_nz {S : List (List Int)} {l : List Int} (hS : ∀ c, c ∈ S → ∀ x, x ∈ c → x ≠ 0) (hl : ∀ x, x ∈ l → x ≠ 0) : ∀ c, c ∈ unitsL S l → ∀ x, x ∈ c → x ≠ 0 := fun c hc x hx => by
  rcases List.mem_append.1 hc with hc | hc
  · exact hS c hc x hx
  · obtain ⟨y, hy, rfl⟩ := List.mem_map.1 hc
    rw [List.mem_singleton.1 hx]; exact hl y hy
theorem sat_units {S : List (List Int)} {l U : List Int} {vals : List Bool} (h : satB vals S U = true) (hl : ∀ x, x ∈ l → x ∈ U) : ∀ c, c ∈ unitsL S l → trueB vals c = true := fun c hc => by
  unfold satB at h
  rw [Bool.and_eq_true] at h
  rcases List.mem_append.1 hc with hc | hc
  · exact List.all_eq_true.1 h.1 c hc
  · obtain ⟨y, hy, rfl⟩ := List.mem_map.1 hc
    exact trueB_mem.2 ⟨y, by simp, List.all_eq_true.1 h.2 y (hl y hy)⟩
theorem chosen_sub {core U : List Int} (h : chosenB core U = true) : ∀ x, x ∈ core → x ∈ U := by
  unfold chosenB at h
  simp only [Bool.and_eq_true] at h
  exact fun x hx => (List.isSublist_iff_sublist.1 h.1).subset hx
theorem chosen_len {core U : List Int} (h : chosenB core U = true) : core.length ≤ U.length := by
  unfold chosenB at h
  simp only [Bool.and_eq_true] at h
  exact (List.isSublist_iff_sublist.1 h.1).length_le

/-- values and a proof exclude each other -/
theorem sat_noproof {n : Int} {S P : List (List Int)} {core U : List Int} {vals : List Bool} (h : satB vals S U = true) (hS : clsB n S = true) (hU : litsB n U = true) (hc : ∀ x, x ∈ core → x ∈ U) (hP : clsB n P = true) : provesB (unitsL S core) P = false :=
  proves_sound (sat_units h hc) (units_nz (cls_nz hS) fun x hx => cls_nz (n := n) (S := [U]) (by simp [clsB, hU]) U (by simp) x (hc x hx)) (cls_nz hP)

-- the small problem of the sanity check
def L4 : List (List Int) := [[1, 2], [1, -2], [-1, 2], [-1, -2]]

theorem L4_none {x : Int} (h : Der L4 [] x) : False := by
  induction h with
  | asm h => cases h
  | @uni c l hc hl _ ih =>
    simp only [L4, List.mem_cons, List.not_mem_nil, or_false] at hc
    rcases hc with rfl | rfl | rfl | rfl <;> simp only [List.mem_cons, List.not_mem_nil, or_false] at hl <;> rcases hl with rfl | rfl
    · exact ih 2 (by simp) (by decide)
    · exact ih 1 (by simp) (by decide)
    · exact ih (-2) (by simp) (by decide)
    · exact ih 1 (by simp) (by decide)
    · exact ih 2 (by simp) (by decide)
    · exact ih (-1) (by simp) (by decide)
    · exact ih (-2) (by simp) (by decide)
    · exact ih (-1) (by simp) (by decide)
theorem L4_free : ¬ Conf L4 [] := by
  rintro (⟨l, h0, h1, h2⟩ | ⟨c, hc, h⟩)
  · exact L4_none h1
  · simp only [L4, List.mem_cons, List.not_mem_nil, or_false] at hc
    rcases hc with rfl | rfl | rfl | rfl
    · exact L4_none (h 1 (by simp))
    · exact L4_none (h 1 (by simp))
    · exact L4_none (h 2 (by simp))
    · exact L4_none (h (-2) (by simp))

/-- a derived literal, from a clause of two -/
theorem Der.two {S : List (List Int)} {A : List Int} {a b : Int} (hc : [a, b] ∈ S ∨ [b, a] ∈ S) (h : Der S A (-b)) : Der S A a := by
  rcases hc with hc | hc
  · refine .uni hc (by simp) fun m hm hne => ?_
    simp only [List.mem_cons, List.not_mem_nil, or_false] at hm
    rcases hm with rfl | rfl
    · exact absurd rfl hne
    · exact h
  · refine .uni hc (by simp) fun m hm hne => ?_
    simp only [List.mem_cons, List.not_mem_nil, or_false] at hm
    rcases hm with rfl | rfl
    · exact h
    · exact absurd rfl hne
theorem Der.one {S : List (List Int)} {A : List Int} {a : Int} (hc : [a] ∈ S) : Der S A a :=
  .uni hc (by simp) fun m hm hne => absurd (List.mem_singleton.1 hm) hne

theorem conf_1 {S : List (List Int)} {A : List Int} (hS : ∀ c, c ∈ L4 → c ∈ S) (h : Der S A 1) : Conf S A :=
  .inl ⟨2, by decide, Der.two (b := -1) (.inr (hS _ (by simp [L4]))) (show Der S A (- -1) from h), Der.two (b := -1) (.inr (hS _ (by simp [L4]))) (show Der S A (- -1) from h)⟩
theorem conf_m1 {S : List (List Int)} {A : List Int} (hS : ∀ c, c ∈ L4 → c ∈ S) (h : Der S A (-1)) : Conf S A :=
  .inl ⟨2, by decide, Der.two (b := 1) (.inr (hS _ (by simp [L4]))) h, Der.two (b := 1) (.inr (hS _ (by simp [L4]))) h⟩
theorem conf_m2 {S : List (List Int)} {A : List Int} (hS : ∀ c, c ∈ L4 → c ∈ S) (h : Der S A (-2)) : Conf S A :=
  conf_1 hS (Der.two (b := 2) (.inl (hS _ (by simp [L4]))) h)

theorem aw_rup : rupR 2 L4 [1] = true := by
  have e : rupB L4 [1] = true := rupB_iff.2 (conf_m1 (fun _ h => h) (.asm (by simp [neg])))
  unfold rupR
  rw [e]; rfl
theorem aw_proof2 : provesB L4 [[1], []] = true := by
  have e1 : rupB L4 [1] = true := rupB_iff.2 (conf_m1 (fun _ h => h) (.asm (by simp [neg])))
  have e2 : rupB (L4 ++ [[1]]) [] = true := rupB_iff.2 (conf_1 (fun c h => List.mem_append_left _ h) (Der.one (by simp)))
  unfold provesB rupAll rupAll rupAll
  rw [e1, e2]; rfl
theorem aw_check : checkR 2 L4 [[1], []] = true := by
  unfold checkR
  rw [aw_proof2]; rfl
theorem aw_proof3 : provesB L4 [[1], [2], []] = true := by
  have e1 : rupB L4 [1] = true := rupB_iff.2 (conf_m1 (fun _ h => h) (.asm (by simp [neg])))
  have e2 : rupB (L4 ++ [[1]]) [2] = true := rupB_iff.2 (conf_1 (fun c h => List.mem_append_left _ h) (Der.one (by simp)))
  have e3 : rupB (L4 ++ [[1]] ++ [[2]]) [] = true := rupB_iff.2 (conf_1 (fun c h => List.mem_append_left _ (List.mem_append_left _ h)) (Der.one (by simp)))
  unfold provesB rupAll rupAll rupAll rupAll
  rw [e1, e2, e3]; rfl
theorem aw_no : propOk 2 L4 [1] = false := by
  have e : confB L4 [1] = true := confB_true (conf_1 (fun _ h => h) (.asm (by simp)))
  unfold propOk
  rw [e]; rfl
theorem aw_noErr : propErr 2 L4 [1] = 0 := by
  unfold propErr
  rw [if_pos ⟨by decide, by decide⟩]

theorem aw_free : confB [[1, 2], [1, -2]] [-2] = false := by
  refine confB_false (Conf.sound (vals := [true, false]) ?_ ?_ ?_)
  · decide
  · decide
  · decide
theorem aw_ok : propOk 2 [[1, 2], [1, -2]] [-2] = true := by
  unfold propOk
  rw [aw_free]; rfl
theorem aw_okErr : propErr 2 [[1, 2], [1, -2]] [-2] = 0 := by
  unfold propErr
  rw [if_pos ⟨by decide, by decide⟩]
theorem aw_lits : propL 2 [[1, 2], [1, -2]] [-2] = [1, -2] := by
  unfold propL
  rw [if_pos ⟨by decide, by decide, aw_free⟩]
  have d1 : Der [[1, 2], [1, -2]] [-2] 1 := Der.two (b := 2) (.inl (by simp)) (.asm (by simp))
  have d2 : ¬ Der [[1, 2], [1, -2]] [-2] 2 := fun h => by
    have := h.sound (vals := [true, false]) (by decide) (by decide) (by decide)
    revert this; decide
  have d3 : Der [[1, 2], [1, -2]] [-2] (-2) := .asm (by simp)
  unfold closeL
  show List.filterMap _ [0, 1] = _
  simp [List.filterMap_cons, d1, d2, d3]

theorem aw_trim {Q : List (List Int)} (h : Q.Sublist [[1], [2], []]) (hp : provesB L4 Q = true) (hm : ∀ j, j < Q.length → provesB L4 (without Q j) = false) : Q.length = 2 := by
  have hno : provesB L4 [[]] = false := by
    rcases e : provesB L4 [[]] with _ | _
    · rfl
    · unfold provesB rupAll at e
      simp only [Bool.and_eq_true] at e
      exact absurd (rupB_iff.1 e.2.1) L4_free
  have hl : lastB Q = true := by
    unfold provesB at hp
    rw [Bool.and_eq_true] at hp
    exact hp.1
  have h0 : Q ∈ [[], [[]], [[2]], [[2], []], [[1]], [[1], []], [[1], [2]], [[1], [2], []]] := by
    cases h with
    | cons _ h => cases h with
      | cons _ h => cases h with
        | cons _ h => cases h; decide
        | cons_cons _ h => cases h; decide
      | cons_cons _ h => cases h with
        | cons _ h => cases h; decide
        | cons_cons _ h => cases h; decide
    | cons_cons _ h => cases h with
      | cons _ h => cases h with
        | cons _ h => cases h; decide
        | cons_cons _ h => cases h; decide
      | cons_cons _ h => cases h with
        | cons _ h => cases h; decide
        | cons_cons _ h => cases h; decide
  simp only [List.mem_cons, List.not_mem_nil, or_false] at h0
  rcases h0 with rfl | rfl | rfl | rfl | rfl | rfl | rfl | rfl
  · cases hl
  · rw [hno] at hp; cases hp
  · cases hl
  · rfl
  · cases hl
  · rfl
  · cases hl
  · have := hm 1 (by decide)
    rw [show without [[1], [2], []] 1 = [[1], []] from rfl, aw_proof2] at this
    cases this

theorem aw_vals {vals : List Bool} (hl : (vals.length : Int) = 2) (h : satB vals [[1, 2], [1, -2], [-1, 2]] [] = true) : vals = [true, true] := by
  match vals, hl with
  | [], hl => simp at hl
  | [_], hl => simp at hl
  | [a, b], _ => cases a <;> cases b <;> first | rfl | (revert h; decide)
  | _ :: _ :: _ :: _, hl => simp at hl; omega
theorem aw_sat {core : List Int} {proof : List (List Int)} (hc : chosenB core [] = true) (hp : clsB 2 proof = true) : provesB (unitsL [[1, 2], [1, -2], [-1, 2]] core) proof = false :=
  sat_noproof (n := 2) (U := []) (vals := [true, true]) (by decide) (by decide) (by decide) (chosen_sub hc) hp
theorem aw_unsat {vals : List Bool} (hl : (vals.length : Int) = 2) (h : satB vals L4 [] = true) : False := by
  match vals, hl with
  | [], hl => simp at hl
  | [_], hl => simp at hl
  | [a, b], _ => cases a <;> cases b <;> (revert h; decide)
  | _ :: _ :: _ :: _, hl => simp at hl; omega
theorem aw_proof {core : List Int} {proof : List (List Int)} (hc : chosenB core [] = true) (hp : clsB 2 proof = true) (h : provesB (unitsL L4 core) proof = true) : checkR 2 L4 proof = true := by
  have : core = [] := by
    have := chosen_len hc
    exact List.length_eq_zero_iff.1 (by simpa using this)
  subst this
  unfold checkR
  rw [show unitsL L4 [] = L4 from rfl] at h
  rw [h, hp]; rfl
end Go.Proofs.Ytjbdiobnlmhidaa
namespace Go.Proofs.Ytjbdiobnlmhidaa
open Go Go.RowKit

/-- the contract of sat.Solve -/
structure SolveOk : Prop where
  c : ∀ {w : World} {B B2 : Nat → Prop} {v v2 : Value} {S : List (List Int)} {U : List Int} (_ : RdSS w B v S) (_ : RdS w B2 v2 (ints U)) (n : Int) (_ : n ≤ 14) (_ : ∀ c, c ∈ S → c.length ≤ 100000000) (_ : U.length ≤ 1000000),
    Calls Try.prog 23 #[.int .i64 n, v, v2] w (SatPost n S U w)

theorem RdS.lit (w : World) (a : Array Value) (t : TypeId) (h : a.size ≤ maxLen) : RdS (w.alloc (.cells a t)) (fun _ => True) (.slice (some ⟨w.heap.size, 0, none⟩) a.size a.size) a.toList :=
  .inr ⟨w.heap.size, 0, a.size, by simp, by simp, h, trivial, by simp, fun i hi => by simp⟩
theorem RdSS.front {w : World} {B : Nat → Prop} {a : Option Addr} {n c : Nat} {ll : List (List Int)} (h : RdSS w B (.slice a n c) ll) {k : Nat} (hk : k ≤ ll.length) : RdSS w B (.slice a k c) (ll.take k) := by
  obtain ⟨vs, h1, h2⟩ := h
  have hl : vs.length = ll.length := h2.1
  exact ⟨vs.take k, h1.front (by omega), RowsAt.take h2 k⟩
theorem al (w : World) (o : Obj) : Below w.heap.size w (w.alloc o) := (Below.refl _ w).alloc (Nat.le_refl _) o

theorem awL (w : World) :
    RdSS (((((w.alloc (.cells #[.int .i64 1, .int .i64 2] 3)).alloc (.cells #[.int .i64 1, .int .i64 (-2)] 3)).alloc (.cells #[.int .i64 (-1), .int .i64 2] 3)).alloc (.cells #[.int .i64 (-1), .int .i64 (-2)] 3)).alloc
      (.cells #[.slice (some ⟨w.heap.size, 0, none⟩) 2 2, .slice (some ⟨w.heap.size + 1, 0, none⟩) 2 2, .slice (some ⟨w.heap.size + 1 + 1, 0, none⟩) 2 2, .slice (some ⟨w.heap.size + 1 + 1 + 1, 0, none⟩) 2 2] 23))
      (fun _ => True) (.slice (some ⟨w.heap.size + 1 + 1 + 1 + 1, 0, none⟩) 4 4) L4 ∧
    Below w.heap.size w (((((w.alloc (.cells #[.int .i64 1, .int .i64 2] 3)).alloc (.cells #[.int .i64 1, .int .i64 (-2)] 3)).alloc (.cells #[.int .i64 (-1), .int .i64 2] 3)).alloc (.cells #[.int .i64 (-1), .int .i64 (-2)] 3)).alloc
      (.cells #[.slice (some ⟨w.heap.size, 0, none⟩) 2 2, .slice (some ⟨w.heap.size + 1, 0, none⟩) 2 2, .slice (some ⟨w.heap.size + 1 + 1, 0, none⟩) 2 2, .slice (some ⟨w.heap.size + 1 + 1 + 1, 0, none⟩) 2 2] 23)) := by
  have r1 := RdS.lit w #[.int .i64 1, .int .i64 2] 3 (by decide)
  have b1 := al w (.cells #[.int .i64 1, .int .i64 2] 3)
  have z1 : (w.alloc (.cells #[.int .i64 1, .int .i64 2] 3)).heap.size = w.heap.size + 1 := by simp
  generalize w.alloc (.cells #[.int .i64 1, .int .i64 2] 3) = w1 at *
  have r2 := RdS.lit w1 #[.int .i64 1, .int .i64 (-2)] 3 (by decide)
  have b2 := al w1 (.cells #[.int .i64 1, .int .i64 (-2)] 3)
  have z2 : (w1.alloc (.cells #[.int .i64 1, .int .i64 (-2)] 3)).heap.size = w.heap.size + 1 + 1 := by simp [z1]
  generalize w1.alloc (.cells #[.int .i64 1, .int .i64 (-2)] 3) = w2 at *
  have r3 := RdS.lit w2 #[.int .i64 (-1), .int .i64 2] 3 (by decide)
  have b3 := al w2 (.cells #[.int .i64 (-1), .int .i64 2] 3)
  have z3 : (w2.alloc (.cells #[.int .i64 (-1), .int .i64 2] 3)).heap.size = w.heap.size + 1 + 1 + 1 := by simp [z2]
  generalize w2.alloc (.cells #[.int .i64 (-1), .int .i64 2] 3) = w3 at *
  have r4 := RdS.lit w3 #[.int .i64 (-1), .int .i64 (-2)] 3 (by decide)
  have b4 := al w3 (.cells #[.int .i64 (-1), .int .i64 (-2)] 3)
  have z4 : (w3.alloc (.cells #[.int .i64 (-1), .int .i64 (-2)] 3)).heap.size = w.heap.size + 1 + 1 + 1 + 1 := by simp [z3]
  generalize w3.alloc (.cells #[.int .i64 (-1), .int .i64 (-2)] 3) = w4 at *
  rw [z1] at r2
  rw [z2] at r3
  rw [z3] at r4
  have r5 := RdS.lit w4 #[.slice (some ⟨w.heap.size, 0, none⟩) 2 2, .slice (some ⟨w.heap.size + 1, 0, none⟩) 2 2, .slice (some ⟨w.heap.size + 1 + 1, 0, none⟩) 2 2, .slice (some ⟨w.heap.size + 1 + 1 + 1, 0, none⟩) 2 2] 23 (by simp [maxLen])
  have b5 := al w4 (.cells #[.slice (some ⟨w.heap.size, 0, none⟩) 2 2, .slice (some ⟨w.heap.size + 1, 0, none⟩) 2 2, .slice (some ⟨w.heap.size + 1 + 1, 0, none⟩) 2 2, .slice (some ⟨w.heap.size + 1 + 1 + 1, 0, none⟩) 2 2] 23)
  generalize w4.alloc (.cells #[.slice (some ⟨w.heap.size, 0, none⟩) 2 2, .slice (some ⟨w.heap.size + 1, 0, none⟩) 2 2, .slice (some ⟨w.heap.size + 1 + 1, 0, none⟩) 2 2, .slice (some ⟨w.heap.size + 1 + 1 + 1, 0, none⟩) 2 2] 23) = w5 at *
  rw [z4] at r5
  refine ⟨⟨_, r5, ?_⟩, (((b1.trans (b2.mono (by omega))).trans (b3.mono (by omega))).trans (b4.mono (by omega))).trans (b5.mono (by omega))⟩
  exact RowsAt.app (RowsAt.one (((r1.below b2).below b3).below b4 |>.below b5)) (RowsAt.app (RowsAt.one ((r2.below b3).below b4 |>.below b5)) (RowsAt.app (RowsAt.one ((r3.below b4).below b5)) (RowsAt.one (r4.below b5))))

/-- the first problem -/
theorem aw_solve3 {w : World} {e : Ending} {w' : World} (h : SatPost 2 [[1, 2], [1, -2], [-1, 2]] [] w e w') : ∃ a1 n1 c1 a2 n2 c2 a3 n3 c3, e = .returned (.tuple #[.agg #[.int .i64 1, .slice a1 n1 c1, .slice a2 n2 c2, .slice a3 n3 c3], .int .i64 0]) ∧
    RdS w' (fun _ => True) (.slice a1 n1 c1) (boos [true, true]) ∧ Below w.heap.size w w' := by
  obtain ⟨ans, er, va, vc, vp, vals, core, proof, rfl, r1, r2, r3, hb, -, hv⟩ := h
  obtain ⟨rfl, ⟨rfl, rfl, rfl, hl, hs⟩ | ⟨rfl, rfl, hc, hp, hp2, -⟩⟩ := hv (by decide)
  · obtain rfl := aw_vals hl hs
    obtain ⟨a1, c1, rfl, -⟩ := r1.form
    obtain ⟨a2, c2, rfl, -⟩ := r2.form
    obtain ⟨a3, c3, rfl, -⟩ := r3.form
    exact ⟨_, _, _, _, _, _, _, _, _, rfl, r1, hb⟩
  · rw [aw_sat hc hp2] at hp
    cases hp
/-- the second problem -/
theorem aw_solve4 {w : World} {e : Ending} {w' : World} (h : SatPost 2 L4 [] w e w') : ∃ a1 n1 c1 a2 n2 c2 a3 n3 c3 P, e = .returned (.tuple #[.agg #[.int .i64 2, .slice a1 n1 c1, .slice a2 n2 c2, .slice a3 n3 c3], .int .i64 0]) ∧
    RdSS w' (fun _ => True) (.slice a3 n3 c3) P ∧ checkR 2 L4 P = true ∧ P.length ≤ 4782970 ∧ (∀ c, c ∈ P → c.length ≤ 100000000) ∧ Below w.heap.size w w' := by
  obtain ⟨ans, er, va, vc, vp, vals, core, proof, rfl, r1, r2, r3, hb, -, hv⟩ := h
  obtain ⟨rfl, ⟨rfl, rfl, rfl, hl, hs⟩ | ⟨rfl, rfl, hc, hp, hp2, hp3⟩⟩ := hv (by decide)
  · exact absurd hs (fun h => aw_unsat hl h)
  · obtain ⟨a1, c1, rfl, -⟩ := r1.form
    obtain ⟨a2, c2, rfl, -⟩ := r2.form
    obtain ⟨a3, c3, rfl, -⟩ := r3.form
    exact ⟨_, _, _, _, _, _, _, _, _, _, rfl, r3, aw_proof hc hp2 hp, hp3.1, hp3.2, hb⟩

theorem stepB {w W w' : World} (h : Below w.heap.size w W) (k : Below W.heap.size W w') : Below w.heap.size w w' := h.trans (k.mono h.size)
theorem heap_keep {W W' : World} {g : Nat} {o : Obj} (h : W.heap[g]? = some o) (b : Below W.heap.size W W') : W'.heap[g]? = some o := (b.block g (lt_of_heap h)).trans h
theorem heap_new (w : World) (o : Obj) : (w.alloc o).heap[w.heap.size]? = some o := by rw [alloc_heap, if_pos rfl]

theorem awP3 (w : World) :
    RdSS ((((w.alloc (.cells #[.int .i64 1] 3)).alloc (.cells #[.int .i64 2] 3)).alloc (.cells #[] 3)).alloc
      (.cells #[.slice (some ⟨w.heap.size, 0, none⟩) 1 1, .slice (some ⟨w.heap.size + 1, 0, none⟩) 1 1, .slice (some ⟨w.heap.size + 1 + 1, 0, none⟩) 0 0] 23))
      (fun _ => True) (.slice (some ⟨w.heap.size + 1 + 1 + 1, 0, none⟩) 3 3) [[1], [2], []] ∧
    Below w.heap.size w ((((w.alloc (.cells #[.int .i64 1] 3)).alloc (.cells #[.int .i64 2] 3)).alloc (.cells #[] 3)).alloc
      (.cells #[.slice (some ⟨w.heap.size, 0, none⟩) 1 1, .slice (some ⟨w.heap.size + 1, 0, none⟩) 1 1, .slice (some ⟨w.heap.size + 1 + 1, 0, none⟩) 0 0] 23)) := by
  have r1 := RdS.lit w #[.int .i64 1] 3 (by decide)
  have b1 := al w (.cells #[.int .i64 1] 3)
  have z1 : (w.alloc (.cells #[.int .i64 1] 3)).heap.size = w.heap.size + 1 := by simp
  generalize w.alloc (.cells #[.int .i64 1] 3) = w1 at *
  have r2 := RdS.lit w1 #[.int .i64 2] 3 (by decide)
  have b2 := al w1 (.cells #[.int .i64 2] 3)
  have z2 : (w1.alloc (.cells #[.int .i64 2] 3)).heap.size = w.heap.size + 1 + 1 := by simp [z1]
  generalize w1.alloc (.cells #[.int .i64 2] 3) = w2 at *
  have r3 := RdS.lit w2 #[] 3 (by decide)
  have b3 := al w2 (.cells #[] 3)
  have z3 : (w2.alloc (.cells #[] 3)).heap.size = w.heap.size + 1 + 1 + 1 := by simp [z2]
  generalize w2.alloc (.cells #[] 3) = w3 at *
  rw [z1] at r2
  rw [z2] at r3
  have r5 := RdS.lit w3 #[.slice (some ⟨w.heap.size, 0, none⟩) 1 1, .slice (some ⟨w.heap.size + 1, 0, none⟩) 1 1, .slice (some ⟨w.heap.size + 1 + 1, 0, none⟩) 0 0] 23 (by simp [maxLen])
  have b5 := al w3 (.cells #[.slice (some ⟨w.heap.size, 0, none⟩) 1 1, .slice (some ⟨w.heap.size + 1, 0, none⟩) 1 1, .slice (some ⟨w.heap.size + 1 + 1, 0, none⟩) 0 0] 23)
  generalize w3.alloc (.cells #[.slice (some ⟨w.heap.size, 0, none⟩) 1 1, .slice (some ⟨w.heap.size + 1, 0, none⟩) 1 1, .slice (some ⟨w.heap.size + 1 + 1, 0, none⟩) 0 0] 23) = w5 at *
  rw [z3] at r5
  refine ⟨⟨_, r5, ?_⟩, ((b1.trans (b2.mono (by omega))).trans (b3.mono (by omega))).trans (b5.mono (by omega))⟩
  exact RowsAt.app (RowsAt.one ((r1.below b2).below b3 |>.below b5)) (RowsAt.app (RowsAt.one ((r2.below b3).below b5)) (RowsAt.one (r3.below b5)))

theorem awP2 (w : World) :
    RdSS (((w.alloc (.cells #[.int .i64 1] 3)).alloc (.cells #[] 3)).alloc
      (.cells #[.slice (some ⟨w.heap.size, 0, none⟩) 1 1, .slice (some ⟨w.heap.size + 1, 0, none⟩) 0 0] 23))
      (fun _ => True) (.slice (some ⟨w.heap.size + 1 + 1, 0, none⟩) 2 2) [[1], []] ∧
    Below w.heap.size w (((w.alloc (.cells #[.int .i64 1] 3)).alloc (.cells #[] 3)).alloc
      (.cells #[.slice (some ⟨w.heap.size, 0, none⟩) 1 1, .slice (some ⟨w.heap.size + 1, 0, none⟩) 0 0] 23)) := by
  have r1 := RdS.lit w #[.int .i64 1] 3 (by decide)
  have b1 := al w (.cells #[.int .i64 1] 3)
  have z1 : (w.alloc (.cells #[.int .i64 1] 3)).heap.size = w.heap.size + 1 := by simp
  generalize w.alloc (.cells #[.int .i64 1] 3) = w1 at *
  have r2 := RdS.lit w1 #[] 3 (by decide)
  have b2 := al w1 (.cells #[] 3)
  have z2 : (w1.alloc (.cells #[] 3)).heap.size = w.heap.size + 1 + 1 := by simp [z1]
  generalize w1.alloc (.cells #[] 3) = w2 at *
  rw [z1] at r2
  have r5 := RdS.lit w2 #[.slice (some ⟨w.heap.size, 0, none⟩) 1 1, .slice (some ⟨w.heap.size + 1, 0, none⟩) 0 0] 23 (by simp [maxLen])
  have b5 := al w2 (.cells #[.slice (some ⟨w.heap.size, 0, none⟩) 1 1, .slice (some ⟨w.heap.size + 1, 0, none⟩) 0 0] 23)
  generalize w2.alloc (.cells #[.slice (some ⟨w.heap.size, 0, none⟩) 1 1, .slice (some ⟨w.heap.size + 1, 0, none⟩) 0 0] 23) = w5 at *
  rw [z2] at r5
  refine ⟨⟨_, r5, ?_⟩, (b1.trans (b2.mono (by omega))).trans (b5.mono (by omega))⟩
  exact RowsAt.app (RowsAt.one ((r1.below b2).below b5)) (RowsAt.one (r2.below b5))

theorem aw_trim3 {w : World} {e : Ending} {w' : World} (h : TrimW 2 L4 [[1], [2], []] w e w') : ∃ a c, e = .returned (.tuple #[.slice a 2 c, .int .i64 0]) ∧ Below w.heap.size w w' := by
  obtain ⟨a, k, c, er, Q, rfl, ho, hb, -, hv⟩ := h
  obtain ⟨rfl, h1, h2, h3⟩ := (hv (by decide)).2 aw_proof3
  obtain ⟨a', c', e, -⟩ := ho.form
  cases e
  rw [aw_trim h2 h1 h3]
  exact ⟨_, _, rfl, hb⟩
theorem aw_prop1 {w : World} {B B2 : Nat → Prop} {v v2 : Value} (h : RdSS w B v [[1, 2], [1, -2]]) (h2 : RdS w B2 v2 (ints [-2])) :
    Calls Try.prog 15 #[.int .i64 2, v, v2] w fun e w' => ∃ a n c, e = .returned (.tuple #[.slice a n c, .bool true, .int .i64 0]) ∧ RdS w' (fun _ => True) (.slice a n c) (ints [1, -2]) ∧ Below w.heap.size w w' := by
  have h := sPropagate_calls h h2 2 (by decide) (by decide)
  rw [aw_lits, aw_ok, aw_okErr] at h
  refine h.mono ?_
  rintro e w' ⟨a, n, c, rfl, ho, hb⟩
  exact ⟨_, _, _, rfl, (RdS.of_row ho).mono fun _ _ _ => trivial, hb⟩
theorem aw_prop2 {w : World} {B B2 : Nat → Prop} {v v2 : Value} (h : RdSS w B v L4) (h2 : RdS w B2 v2 (ints [1])) :
    Calls Try.prog 15 #[.int .i64 2, v, v2] w fun e w' => ∃ a n c, e = .returned (.tuple #[.slice a n c, .bool false, .int .i64 0]) ∧ Below w.heap.size w w' := by
  have h := sPropagate_calls h h2 2 (by decide) (by decide)
  rw [aw_no, aw_noErr] at h
  refine h.mono ?_
  rintro e w' ⟨a, n, c, rfl, ho, hb⟩
  exact ⟨_, _, _, rfl, hb⟩

theorem bools_same {w : World} {B B2 : Nat → Prop} {v v2 : Value} {l : List Bool} (h : RdS w B v (boos l)) (h2 : RdS w B2 v2 (boos l)) : Calls Try.prog 33 #[v, v2] w fun e w' => e = .returned (.bool true) ∧ Below w.heap.size w w' := by
  refine (Bools_calls h h2).mono ?_
  rintro e w' ⟨rfl, hs⟩
  exact ⟨by simp, hs.below _⟩
theorem ints_same {w : World} {B B2 : Nat → Prop} {v v2 : Value} {l : List Int} (h : RdS w B v (ints l)) (h2 : RdS w B2 v2 (ints l)) : Calls Try.prog 17 #[v, v2] w fun e w' => e = .returned (.bool true) ∧ Below w.heap.size w w' := by
  refine (Ints_calls h h2).mono ?_
  rintro e w' ⟨rfl, hs⟩
  exact ⟨by simp, hs.below _⟩
theorem aw_chk {w : World} {B B2 : Nat → Prop} {v v2 : Value} (h : RdSS w B v L4) (h2 : RdSS w B2 v2 [[1], []]) : Calls Try.prog 21 #[.int .i64 2, v, v2] w fun e w' => e = .returned (.bool true) ∧ Below w.heap.size w w' := by
  have h := sCheck_calls h h2 2 (by decide) (by decide) (by decide)
  rw [aw_check] at h
  exact h.mono fun e w' hp => hp
theorem aw_rp {w : World} {B B2 : Nat → Prop} {v v2 : Value} (h : RdSS w B v L4) (h2 : RdS w B2 v2 (ints [1])) : Calls Try.prog 19 #[.int .i64 2, v, v2] w fun e w' => e = .returned (.bool true) ∧ Below w.heap.size w w' := by
  have h := sRup_calls h h2 2 (by decide) (by decide)
  rw [aw_rup] at h
  exact h.mono fun e w' hp => hp
theorem aw_rchk {w : World} {B B2 : Nat → Prop} {v v2 : Value} {P : List (List Int)} (h : RdSS w B v L4) (h2 : RdSS w B2 v2 P) (hp : checkR 2 L4 P = true ∧ P.length ≤ 4782970 ∧ ∀ c, c ∈ P → c.length ≤ 100000000) : Calls Try.prog 22 #[.int .i64 2, v, v2] w fun e w' => e = .returned (.bool true) ∧ Below w.heap.size w w' := by
  have h := rCheck_calls h h2 2 (by omega) (fun c hc => Nat.le_trans (hp.2.2 c hc) (by decide))
  rw [hp.1] at h
  exact h.mono fun e w' hp => hp
theorem aw_trm {w : World} {B B2 : Nat → Prop} {v v2 : Value} (h : RdSS w B v L4) (h2 : RdSS w B2 v2 [[1], [2], []]) : Calls Try.prog 30 #[.int .i64 2, v, v2] w fun e w' => ∃ a c, e = .returned (.tuple #[.slice a 2 c, .int .i64 0]) ∧ Below w.heap.size w w' :=
  (sTrim_calls h h2 2 (by decide) (by decide) (by decide)).mono fun e w' hp => aw_trim3 hp
theorem box_cell {w : World} {g : Nat} {x0 x1 x2 x3 : Value} (h : w.heap[g]? = some (.cells #[x0, x1, x2, x3] 38)) : w.cell? ⟨g, 0, none⟩ = some x0 ∧ w.cell? ⟨g, 1, none⟩ = some x1 ∧ w.cell? ⟨g, 2, none⟩ = some x2 ∧ w.cell? ⟨g, 3, none⟩ = some x3 :=
  ⟨by simpa using cell_of_row w g 0 _ 38 (0, 0) h, by simpa using cell_of_row w g 1 _ 38 (0, 0) h, by simpa using cell_of_row w g 2 _ 38 (0, 0) h, by simpa using cell_of_row w g 3 _ 38 (0, 0) h⟩

set_option maxHeartbeats 8000000 in
theorem awake_calls (hs : SolveOk) (w : World) : Calls Try.prog 12 #[] w (fun e w' => e = .returned (.bool true) ∧ Below w.heap.size w w') := by
  obtain ⟨hL, hB⟩ := awL w
  have HS := Lib.hid hs
  have HL := Lib.hid hL
  have HB := Lib.hid hB
  have HC := Lib.hid (hs.c (hL.front (k := 3) (by decide)) (v2 := .slice none 0 0) (U := []) (B2 := fun _ => True) (.inl ⟨⟨_, rfl⟩, rfl⟩) 2 (by decide) (by decide) (by decide))
  clear hs hL hB
  go_enter Try.func12, Try.ntmps12
  go_wp2_with (first | (go_at_call 23; refine HC.out.mono ?_; intro e w6 hp; obtain ⟨a1, n1, c1, a2, n2, c2, a3, n3, c3, rfl, r1, b1⟩ := aw_solve3 hp; clear HC hp; have hl6 := (HL.out.below b1).below (al w6 (.cells #[.int .i64 1, .slice a1 n1 c1, .slice a2 n2 c2, .slice a3 n3 c3] 38)); have HG6 := Lib.hid (heap_new w6 (.cells #[.int .i64 1, .slice a1 n1 c1, .slice a2 n2 c2, .slice a3 n3 c3] 38)); have HB6 := Lib.hid (stepB (stepB HB.out b1) (al w6 (.cells #[.int .i64 1, .slice a1 n1 c1, .slice a2 n2 c2, .slice a3 n3 c3] 38))); have HL6 := Lib.hid hl6; have HR6 := Lib.hid (r1.below (al w6 (.cells #[.int .i64 1, .slice a1 n1 c1, .slice a2 n2 c2, .slice a3 n3 c3] 38))); have HD := Lib.hid (HS.out.c hl6 (v2 := .slice none 0 0) (U := []) (B2 := fun _ => True) (.inl ⟨⟨_, rfl⟩, rfl⟩) 2 (by decide) (by decide) (by decide)); clear r1 b1 hl6 HL HB) | (go_at_call 23; refine HD.out.mono ?_; intro e w8 hp; obtain ⟨d1, m1, k1, d2, m2, k2, d3, m3, k3, P, rfl, rp, pc, pl, pr, b8⟩ := aw_solve4 hp; clear HD hp HS; have b8 := stepB b8 (al w8 (.cells #[.int .i64 2, .slice d1 m1 k1, .slice d2 m2 k2, .slice d3 m3 k3] 38)); have HG8 := Lib.hid (heap_new w8 (.cells #[.int .i64 2, .slice d1 m1 k1, .slice d2 m2 k2, .slice d3 m3 k3] 38)); have HP8 := Lib.hid (rp.below (al w8 (.cells #[.int .i64 2, .slice d1 m1 k1, .slice d2 m2 k2, .slice d3 m3 k3] 38))); have HPV := Lib.hid (And.intro pc (And.intro pl pr)); have hl8 := HL6.out.below b8; have HL8 := Lib.hid hl8; have HB8 := Lib.hid (stepB HB6.out b8); have HG68 := Lib.hid (heap_keep HG6.out b8); have HR68 := Lib.hid (HR6.out.below b8); have rx := RdS.lit (w8.alloc (.cells #[.int .i64 2, .slice d1 m1 k1, .slice d2 m2 k2, .slice d3 m3 k3] 38)) #[.int .i64 (-2)] 3 (by decide); rw [alloc_size] at rx; have HE := Lib.hid (aw_prop1 ((hl8.front (k := 2) (by decide)).below (al _ (.cells #[.int .i64 (-2)] 3))) rx); clear rx hl8 b8 rp pc pl pr HL6 HB6 HG6 HR6) | (go_at_call 15; refine HE.out.mono ?_; rintro e w9 ⟨a4, n4, c4, rfl, r4, b9⟩; clear HE; have b9 := stepB (al _ (.cells #[.int .i64 (-2)] 3)) b9; have HL9 := Lib.hid (HL8.out.below b9); have HB9 := Lib.hid (stepB HB8.out b9); have HP9 := Lib.hid (HP8.out.below b9); have HG69 := Lib.hid (heap_keep HG68.out b9); have HG89 := Lib.hid (heap_keep HG8.out b9); have HR69 := Lib.hid (HR68.out.below b9); have HA9 := Lib.hid r4; have HF := Lib.hid (aw_prop2 (HL9.out.below (al w9 (.cells #[.int .i64 1] 3))) (RdS.lit w9 #[.int .i64 1] 3 (by decide))); clear b9 r4 HL8 HB8 HP8 HG68 HG8 HR68) | (go_at_call 15; refine HF.out.mono ?_; rintro e w10 ⟨a5, n5, c5, rfl, b10⟩; clear HF; have b10 := stepB (al _ (.cells #[.int .i64 1] 3)) b10; have HL10 := Lib.hid (HL9.out.below b10); have HB10 := Lib.hid (stepB HB9.out b10); have HP10 := Lib.hid (HP9.out.below b10); have HG610 := Lib.hid (heap_keep HG69.out b10); have HG810 := Lib.hid (heap_keep HG89.out b10); have HR610 := Lib.hid (HR69.out.below b10); have HA10 := Lib.hid (HA9.out.below b10); have HF := Lib.hid (aw_trm (HL10.out.below (awP3 w10).2) (awP3 w10).1); clear b10 HL9 HB9 HP9 HG69 HG89 HR69 HA9) | (go_at_call 30; refine HF.out.mono ?_; rintro e w11 ⟨a6, c6, rfl, b11⟩; clear HF; have b11 := stepB (awP3 w10).2 b11; have HL11 := Lib.hid (HL10.out.below b11); have HB11 := Lib.hid (stepB HB10.out b11); have HP11 := Lib.hid (HP10.out.below b11); have HG611 := Lib.hid (heap_keep HG610.out b11); have HG811 := Lib.hid (heap_keep HG810.out b11); have hr11 := HR610.out.below b11; have HA11 := Lib.hid (HA10.out.below b11); obtain ⟨f0, f1, -, -⟩ := box_cell HG611.out; have HF := Lib.hid (bools_same (hr11.below (al w11 (.cells #[.bool true, .bool true] 4))) (RdS.lit w11 #[.bool true, .bool true] 4 (by decide))); clear hr11 b11 HL10 HB10 HP10 HG610 HG810 HR610 HA10) | (go_at_call 33; refine HF.out.mono ?_; rintro e w12 ⟨rfl, b12⟩; clear HF f0 f1; have b12 := stepB (al _ (.cells #[.bool true, .bool true] 4)) b12; have HL12 := Lib.hid (HL11.out.below b12); have HB12 := Lib.hid (stepB HB11.out b12); have HP12 := Lib.hid (HP11.out.below b12); have HG812 := Lib.hid (heap_keep HG811.out b12); have HA12 := Lib.hid (HA11.out.below b12); obtain ⟨f0, -, -, f3⟩ := box_cell HG812.out; have HF := Lib.hid (aw_rchk HL12.out HP12.out HPV.out); clear b12 HL11 HB11 HP11 HG611 HG811 HA11) | (go_at_call 22; refine HF.out.mono ?_; rintro e w13 ⟨rfl, b13⟩; clear HF f0 f3; have HL13 := Lib.hid (HL12.out.below b13); have HB13 := Lib.hid (stepB HB12.out b13); have HF := Lib.hid (ints_same ((HA12.out.below b13).below (al w13 (.cells #[.int .i64 1, .int .i64 (-2)] 3))) (RdS.lit w13 #[.int .i64 1, .int .i64 (-2)] 3 (by decide))); clear b13 HL12 HB12 HP12 HG812 HA12) | (go_at_call 17; refine HF.out.mono ?_; rintro e w14 ⟨rfl, b14⟩; clear HF; have b14 := stepB (al _ (.cells #[.int .i64 1, .int .i64 (-2)] 3)) b14; have HL14 := Lib.hid (HL13.out.below b14); have HB14 := Lib.hid (stepB HB13.out b14); have HF := Lib.hid (aw_chk (HL14.out.below (awP2 w14).2) (awP2 w14).1); clear b14 HL13 HB13) | (go_at_call 21; refine HF.out.mono ?_; rintro e w15 ⟨rfl, b15⟩; clear HF; have b15 := stepB (awP2 w14).2 b15; have HL15 := Lib.hid (HL14.out.below b15); have HB15 := Lib.hid (stepB HB14.out b15); have HF := Lib.hid (aw_rp (HL15.out.below (al w15 (.cells #[.int .i64 1] 3))) (RdS.lit w15 #[.int .i64 1] 3 (by decide))); clear b15 HL14 HB14) | (go_at_call 19; refine HF.out.mono ?_; rintro e w16 ⟨rfl, b16⟩; clear HF; have b16 := stepB (al _ (.cells #[.int .i64 1] 3)) b16; have HB16 := Lib.hid (stepB HB15.out b16); clear b16 HL15 HB15))
  go_ret
  exact ⟨rfl, HB16.out⟩
end Go.Proofs.Ytjbdiobnlmhidaa
