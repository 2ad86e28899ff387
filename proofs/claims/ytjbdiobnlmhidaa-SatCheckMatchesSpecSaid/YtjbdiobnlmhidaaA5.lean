/- Proved here: the readers and copiers of clauses answer as their plain functions. Conditions: those that each theorem states. -/
import Derived.Test.YtjbdiobnlmhidaaA1
import Derived.Test.YtjbdiobnlmhidaaA2
import Derived.Test.YtjbdiobnlmhidaaA4
set_option linter.unusedVariables false
set_option linter.unusedSimpArgs false
namespace Go.Proofs.Ytjbdiobnlmhidaa
open Go Go.RowKit

theorem ret_int' {k : IntKind} {a b : Int} (h : a = b) : Ending.returned (.int k a) = .returned (.int k b) := by rw [h]
theorem ret_bool {a b : Bool} (h : a = b) : Ending.returned (.bool a) = .returned (.bool b) := by rw [h]

/-- a slice of slices that is only read -/
def RdSS (w : World) (B : Nat → Prop) (v : Value) (ll : List (List Int)) : Prop :=
  ∃ vs : List Value, RdS w B v vs ∧ vs.length = ll.length ∧ ∀ i, i < ll.length → RdS w B (vs.getD i undef) (ints (ll.getD i []))

theorem RdSS.form {w : World} {B : Nat → Prop} {v : Value} {ll : List (List Int)} (h : RdSS w B v ll) : ∃ a c, v = .slice a ll.length c ∧ ll.length ≤ c ∧ c ≤ maxLen := by
  obtain ⟨vs, h1, h2, -⟩ := h
  obtain ⟨a, c, rfl, h3, h4⟩ := h1.form
  exact ⟨a, c, by rw [h2], by omega, h4⟩

theorem RdSS.at {w : World} {B : Nat → Prop} {a : Option Addr} {n c : Nat} {ll : List (List Int)} (h : RdSS w B (.slice a n c) ll) {i : Nat} (hi : i < ll.length) :
    ∃ b o a' c', a = some ⟨b, o, none⟩ ∧ w.cell? ⟨b, o + i, none⟩ = some (.slice a' (ll.getD i []).length c') ∧ RdS w B (.slice a' (ll.getD i []).length c') (ints (ll.getD i [])) ∧ (ll.getD i []).length ≤ c' ∧ c' ≤ maxLen := by
  obtain ⟨vs, h1, h2, h3⟩ := h
  have hi' : i < vs.length := by omega
  obtain ⟨b, o, c1, e, _, _, hB, hlt, hc⟩ := h1.cell hi'
  cases e
  have h4 := h3 i hi
  obtain ⟨a', c', e, h5, h6⟩ := h4.form
  rw [ints_length] at e h5
  refine ⟨b, o, a', c', rfl, ?_, by rw [← e]; exact h4, h5, h6⟩
  rw [hc, ← e]
  simp [hi']

theorem RdSS.kept {w w' : World} {B B' : Nat → Prop} {v : Value} {ll : List (List Int)} (h : RdSS w B v ll) (hs : w.heap.size ≤ w'.heap.size) (hk : ∀ b, b < w.heap.size → B b → B' b ∧ w'.heap[b]? = w.heap[b]?) : RdSS w' B' v ll := by
  obtain ⟨vs, h1, h2, h3⟩ := h
  exact ⟨vs, h1.kept hs hk, h2, fun i hi => (h3 i hi).kept hs hk⟩
theorem RdSS.below {w w' : World} {B : Nat → Prop} {v : Value} {ll : List (List Int)} (h : RdSS w B v ll) (hb : Below w.heap.size w w') : RdSS w' B v ll :=
  h.kept hb.size fun b hlt hB => ⟨hB, hb.block b hlt⟩
theorem RdSS.chg {S : Role → Prop} {R R' : Roles} {w w' : World} {v : Value} {ll : List (List Int)} (h : RdSS w (fun b => R b = none) v ll) (k : Chg S R w R' w') : RdSS w' (fun b => R' b = none) v ll :=
  h.kept k.size fun b hlt hB => ⟨by rw [k.old b hlt]; exact hB, k.kept b hlt fun r hr => by rw [hB] at hr; cases hr⟩

def litB (n x : Int) : Bool := x != 0 && decide (x ≤ n) && decide (-n ≤ x)
def litsB (n : Int) (l : List Int) : Bool := l.all (litB n)
def clsB (n : Int) (ll : List (List Int)) : Bool := ll.all (litsB n)

theorem litB_cases (n x : Int) : (x = 0 ∧ litB n x = false) ∨ (x ≠ 0 ∧ n < x ∧ litB n x = false) ∨ (x ≠ 0 ∧ x ≤ n ∧ x < -n ∧ litB n x = false) ∨ (x ≠ 0 ∧ x ≤ n ∧ -n ≤ x ∧ litB n x = true) := by
  unfold litB
  by_cases h0 : x = 0
  · simp [h0]
  · by_cases h1 : x ≤ n
    · by_cases h2 : -n ≤ x
      · right; right; right; simp [h0, h1, h2]
      · right; right; left; simp [h0, h1, h2]; omega
    · right; left; simp [h0, h1]; omega

theorem drop_cons {α : Type} {l : List α} {k : Nat} (d : α) (h : k < l.length) : l.drop k = l.getD k d :: l.drop (k + 1) := by
  rw [List.drop_eq_getElem_cons h]; simp [h]

theorem size_calls (x : Int) (w : World) (h0 : -1000000000000000 ≤ x) (h1 : x ≤ 1000000000000000) :
    Calls Try.prog 49 #[.int .i64 x] w fun e w' => e = .returned (.int .i64 (x.natAbs : Int)) ∧ w = w' := by
  by_cases h : x < 0
  · go_enter Try.func49, Try.ntmps49
    go_wp2
    go_ret
    exact ⟨ret_int' (by omega), rfl⟩
  · go_enter Try.func49, Try.ntmps49
    go_wp2
    go_ret
    exact ⟨ret_int' (by omega), rfl⟩

set_option maxHeartbeats 4000000 in
theorem Literals_calls {w : World} {B : Nat → Prop} {v : Value} {l : List Int} (h : RdS w B v (ints l)) (n : Int) (hn0 : 0 ≤ n) (hn1 : n ≤ 1000000) :
    Calls Try.prog 25 #[.int .i64 n, v] w fun e w' => e = .returned (.bool (litsB n l)) ∧ w = w' := by
  obtain ⟨a, c, rfl, h1, h2⟩ := h.form
  rw [ints_length] at *
  have H := Lib.hid h
  unfold maxLen at h2
  clear h
  go_enter Try.func25, Try.ntmps25
  go_wp2_with fail
  go_loopg [5] l.length (fun kq v5 w' => ∃ k : Nat, v5 = .int .i64 k ∧ k + kq = l.length ∧ Hid (litsB n (l.drop k) = litsB n l) ∧ w = w')
  case atStart => exact ⟨0, rfl, by omega, rfl, rfl⟩
  case round =>
    obtain ⟨k, rfl, hk, HG, rfl⟩ := hrel
    by_cases hlt : k < l.length
    · obtain ⟨b, o, rfl, kcell, -, -⟩ := H.out.at hlt
      have hd := drop_cons (0 : Int) hlt
      generalize l.getD k 0 = x at *
      have hg : (litB n x && litsB n (l.drop (k + 1))) = litsB n l := by rw [← HG.out, hd]; rfl
      have HG2 := Lib.hid hg
      clear HG hg hd
      rcases litB_cases n x with ⟨rfl, hb⟩ | ⟨h0, h3, hb⟩ | ⟨h0, h3, h4, hb⟩ | ⟨h0, h3, h4, hb⟩
      · have HB := Lib.hid hb
        clear hb
        go_wp2
        go_ret
        exact ⟨ret_bool (by rw [← HG2.out, HB.out]; rfl), rfl⟩
      · have HB := Lib.hid hb
        have b0 : (x == 0) = false := beq_eq_false_iff_ne.2 h0
        clear hb h0
        go_wp2
        go_ret
        exact ⟨ret_bool (by rw [← HG2.out, HB.out]; rfl), rfl⟩
      · have HB := Lib.hid hb
        have b0 : (x == 0) = false := beq_eq_false_iff_ne.2 h0
        clear hb h0
        go_wp2
        go_ret
        exact ⟨ret_bool (by rw [← HG2.out, HB.out]; rfl), rfl⟩
      · have HB := Lib.hid hb
        have b0 : (x == 0) = false := beq_eq_false_iff_ne.2 h0
        clear hb h0
        go_wp2
        go_roundg (gk - 1)
        case measure => omega
        case rel => exact ⟨k + 1, by go_num, by omega, by show litsB n _ = _; rw [← HG2.out, HB.out]; simp, rfl⟩
    · obtain rfl : k = l.length := by omega
      go_wp2
      go_ret
      exact ⟨ret_bool (by rw [← HG.out]; simp [litsB]), rfl⟩

set_option maxHeartbeats 4000000 in
theorem literals_calls {w : World} {B : Nat → Prop} {v : Value} {ll : List (List Int)} (h : RdSS w B v ll) (n : Int) (hn0 : 0 ≤ n) (hn1 : n ≤ 1000000) :
    Calls Try.prog 42 #[.int .i64 n, v] w fun e w' => e = .returned (.bool (clsB n ll)) ∧ w = w' := by
  obtain ⟨a, c, rfl, h1, h2⟩ := h.form
  have H := Lib.hid h
  unfold maxLen at h2
  clear h
  go_enter Try.func42, Try.ntmps42
  go_wp2_with fail
  go_loopg [5] ll.length (fun kq v5 w' => ∃ k : Nat, v5 = .int .i64 k ∧ k + kq = ll.length ∧ Hid (clsB n (ll.drop k) = clsB n ll) ∧ w = w')
  case atStart => exact ⟨0, rfl, by omega, rfl, rfl⟩
  case round =>
    obtain ⟨k, rfl, hk, HG, rfl⟩ := hrel
    by_cases hlt : k < ll.length
    · obtain ⟨b, o, a', c', rfl, kcell, hr, -, -⟩ := H.out.at hlt
      have hd := drop_cons ([] : List Int) hlt
      generalize ll.getD k [] = x at *
      have hg : (litsB n x && clsB n (ll.drop (k + 1))) = clsB n ll := by rw [← HG.out, hd]; rfl
      have HG2 := Lib.hid hg
      have HC := Lib.hid (Literals_calls hr n hn0 hn1)
      clear HG hg hd hr
      rcases hb : litsB n x with _ | _
      · have HB := Lib.hid hb
        rw [hb] at HC
        clear hb
        go_wp2_with (go_at_call 25; refine HC.out.mono ?_; rintro e w' ⟨rfl, rfl⟩)
        go_ret
        exact ⟨ret_bool (by rw [← HG2.out, HB.out]; rfl), rfl⟩
      · have HB := Lib.hid hb
        rw [hb] at HC
        clear hb
        go_wp2_with (go_at_call 25; refine HC.out.mono ?_; rintro e w' ⟨rfl, rfl⟩)
        go_roundg (gk - 1)
        case measure => omega
        case rel => exact ⟨k + 1, by go_num, by omega, by show clsB n _ = _; rw [← HG2.out, HB.out]; simp, rfl⟩
    · obtain rfl : k = ll.length := by omega
      go_wp2
      go_ret
      exact ⟨ret_bool (by rw [← HG.out]; simp [clsB]), rfl⟩

/-- are n and clauses valid -/
def validB (n : Int) (ll : List (List Int)) : Bool := decide (0 ≤ n) && decide (n ≤ 1000) && decide (ll.length ≤ 10000) && clsB n ll

set_option maxHeartbeats 4000000 in
theorem Clauses_calls {w : World} {B : Nat → Prop} {v : Value} {ll : List (List Int)} (h : RdSS w B v ll) (n : Int) :
    Calls Try.prog 24 #[.int .i64 n, v] w fun e w' => e = .returned (.bool (validB n ll)) ∧ w = w' := by
  obtain ⟨a, c, rfl, h1, h2⟩ := h.form
  by_cases hn0 : 0 ≤ n
  · by_cases hn1 : n ≤ 1000
    · by_cases hl : ll.length ≤ 10000
      · have HC := Lib.hid (literals_calls h n hn0 (by omega))
        have e : validB n ll = clsB n ll := by simp [validB, hn0, hn1, hl]
        rw [e]
        clear e h
        have hl' : (ll.length : Int) ≤ 10000 := by omega
        go_enter Try.func24, Try.ntmps24
        go_wp2_with (go_at_call 42; refine HC.out.mono ?_; rintro e w' ⟨rfl, rfl⟩)
        go_ret
        exact ⟨rfl, rfl⟩
      · have e : validB n ll = false := by simp [validB, hl]
        rw [e]
        clear e h
        have hl' : ¬ (ll.length : Int) ≤ 10000 := by omega
        go_enter Try.func24, Try.ntmps24
        go_wp2_with fail
        go_ret
        exact ⟨rfl, rfl⟩
    · have e : validB n ll = false := by simp [validB, hn1]
      rw [e]
      clear e h
      go_enter Try.func24, Try.ntmps24
      go_wp2_with fail
      go_ret
      exact ⟨rfl, rfl⟩
  · have e : validB n ll = false := by simp [validB, hn0]
    rw [e]
    clear e h
    go_enter Try.func24, Try.ntmps24
    go_wp2_with fail
    go_ret
    exact ⟨rfl, rfl⟩
end Go.Proofs.Ytjbdiobnlmhidaa
namespace Go.Proofs.Ytjbdiobnlmhidaa
open Go Go.RowKit

/-- the heap is as it was -/
structure Same (w w' : World) : Prop where
  heap : w'.heap = w.heap
  os : w'.os = w.os
  tape : w'.tape = w.tape
  output : w'.output = w.output
theorem Same.refl (w : World) : Same w w := ⟨rfl, rfl, rfl, rfl⟩
theorem Same.drew {w w' : World} (h : Same w w') : Same w w'.drew := ⟨h.heap, h.os, h.tape, h.output⟩
theorem Same.trans {a b c : World} (h : Same a b) (k : Same b c) : Same a c := ⟨k.heap.trans h.heap, k.os.trans h.os, k.tape.trans h.tape, k.output.trans h.output⟩
theorem Same.below {w w' : World} (h : Same w w') (B : Nat) : Below B w w' := ⟨h.os, h.tape, h.output, by rw [h.heap]; exact Nat.le_refl _, fun _ _ => by rw [h.heap]⟩

set_option maxHeartbeats 4000000 in
theorem Valid_calls {w : World} {B : Nat → Prop} {v : Value} {ll : List (List Int)} (h : RdSS w B v ll) (n : Int) (hn0 : 0 ≤ n) (hn1 : n ≤ 1000000) :
    Calls Try.prog 51 #[.int .i64 n, v] w fun e w' => e = .returned (.bool (clsB n ll)) ∧ w = w' := by
  obtain ⟨a, c, rfl, h1, h2⟩ := h.form
  have H := Lib.hid h
  unfold maxLen at h2
  clear h
  go_enter Try.func51, Try.ntmps51
  go_wp2_with fail
  go_loopg [11] ll.length (fun kq v11 w' => ∃ k : Nat, v11 = .int .i64 k ∧ k + kq = ll.length ∧ Hid (clsB n (ll.drop k) = clsB n ll) ∧ w = w')
  case atStart => exact ⟨0, rfl, by omega, rfl, rfl⟩
  case round =>
    obtain ⟨k, rfl, hk, HG, rfl⟩ := hrel
    by_cases hlt : k < ll.length
    · obtain ⟨b, o, a', c', rfl, kcell, hr, hr1, hr2⟩ := H.out.at hlt
      have hd := drop_cons ([] : List Int) hlt
      generalize ll.getD k [] = l at *
      have hg : (litsB n l && clsB n (ll.drop (k + 1))) = clsB n ll := by rw [← HG.out, hd]; rfl
      have HG2 := Lib.hid hg
      have HR := Lib.hid hr
      unfold maxLen at hr2
      clear HG hg hd hr
      obtain ⟨ko, rfl⟩ : ∃ ko : Nat, ko = gk := ⟨_, rfl⟩
      go_wp2_with fail
      go_loopg [17] l.length (fun kq v17 w' => ∃ j : Nat, v17 = .int .i64 j ∧ j + kq = l.length ∧ Hid (litsB n (l.drop j) = litsB n l) ∧ w = w')
      case atStart => exact ⟨0, rfl, by omega, rfl, rfl⟩
      case round =>
        obtain ⟨j, rfl, hj, HG3, rfl⟩ := hrel
        by_cases hlt2 : j < l.length
        · obtain ⟨b2, o2, rfl, jcell, -, -⟩ := HR.out.at hlt2
          have hd := drop_cons (0 : Int) hlt2
          generalize l.getD j 0 = x at *
          have hg : (litB n x && litsB n (l.drop (j + 1))) = litsB n l := by rw [← HG3.out, hd]; rfl
          have HG4 := Lib.hid hg
          clear HG3 hg hd
          rcases litB_cases n x with ⟨rfl, hb⟩ | ⟨h0, h3, hb⟩ | ⟨h0, h3, h4, hb⟩ | ⟨h0, h3, h4, hb⟩
          · have HB := Lib.hid hb
            clear hb
            go_wp2
            go_ret
            exact ⟨ret_bool (by rw [← HG2.out, ← HG4.out, HB.out]; rfl), rfl⟩
          · have HB := Lib.hid hb
            have b0 : (x == 0) = false := beq_eq_false_iff_ne.2 h0
            clear hb h0
            go_wp2
            go_ret
            exact ⟨ret_bool (by rw [← HG2.out, ← HG4.out, HB.out]; rfl), rfl⟩
          · have HB := Lib.hid hb
            have b0 : (x == 0) = false := beq_eq_false_iff_ne.2 h0
            clear hb h0
            go_wp2
            go_ret
            exact ⟨ret_bool (by rw [← HG2.out, ← HG4.out, HB.out]; rfl), rfl⟩
          · have HB := Lib.hid hb
            have b0 : (x == 0) = false := beq_eq_false_iff_ne.2 h0
            clear hb h0
            go_wp2
            go_roundg (gk - 1)
            case measure => omega
            case rel => exact ⟨j + 1, by go_num, by omega, by show litsB n _ = _; rw [← HG4.out, HB.out]; simp, rfl⟩
        · obtain rfl : j = l.length := by omega
          go_wp2
          go_roundg (ko - 1)
          case measure => omega
          case rel => exact ⟨k + 1, by go_num, by omega, by
            show clsB n _ = _
            have : litsB n l = true := by rw [← HG3.out]; simp [litsB]
            rw [← HG2.out, this]; simp, rfl⟩
    · obtain rfl : k = ll.length := by omega
      go_wp2
      go_ret
      exact ⟨ret_bool (by rw [← HG.out]; simp [clsB]), rfl⟩

set_option maxHeartbeats 4000000 in
theorem valid_calls {w : World} {B B2 : Nat → Prop} {v v2 : Value} {ll more : List (List Int)} (h : RdSS w B v ll) (h2 : RdSS w B2 v2 more) (n : Int) :
    Calls Try.prog 34 #[.int .i64 n, v, v2] w fun e w' => e = .returned (.bool (validB n ll && clsB n more)) ∧ w = w' := by
  obtain ⟨a, c, rfl, h1, -⟩ := h.form
  by_cases hn0 : 0 ≤ n
  · by_cases hn1 : n ≤ 1000
    · by_cases hl : ll.length ≤ 10000
      · have HC := Lib.hid (Valid_calls h n hn0 (by omega))
        have HC2 := Lib.hid (Valid_calls h2 n hn0 (by omega))
        have e : validB n ll = clsB n ll := by simp [validB, hn0, hn1, hl]
        rw [e]
        have hl' : (ll.length : Int) ≤ 10000 := by omega
        clear e h h2
        rcases hb : clsB n ll with _ | _
        · rw [hb] at HC
          clear hb
          go_enter Try.func34, Try.ntmps34
          go_wp2_with (go_at_call 51; refine HC.out.mono ?_; rintro e w' ⟨rfl, rfl⟩)
          go_ret
          exact ⟨rfl, rfl⟩
        · rw [hb] at HC
          clear hb
          go_enter Try.func34, Try.ntmps34
          go_wp2_with fail
          refine HC.out.mono ?_
          rintro e w' ⟨rfl, rfl⟩
          go_wp2_with fail
          refine HC2.out.mono ?_
          rintro e w' ⟨rfl, rfl⟩
          go_wp2_with fail
          go_ret
          exact ⟨ret_bool (by simp), rfl⟩
      · have e : validB n ll = false := by simp [validB, hl]
        rw [e]
        have hl' : ¬ (ll.length : Int) ≤ 10000 := by omega
        clear e h h2
        go_enter Try.func34, Try.ntmps34
        go_wp2_with fail
        go_ret
        exact ⟨rfl, rfl⟩
    · have e : validB n ll = false := by simp [validB, hn1]
      rw [e]
      clear e h h2
      go_enter Try.func34, Try.ntmps34
      go_wp2_with fail
      go_ret
      exact ⟨rfl, rfl⟩
  · have e : validB n ll = false := by simp [validB, hn0]
    rw [e]
    clear e h h2
    go_enter Try.func34, Try.ntmps34
    go_wp2_with fail
    go_ret
    exact ⟨rfl, rfl⟩

/-- is a literal true under values -/
def trueL (vals : List Bool) (x : Int) : Bool := vals.getD (x.natAbs - 1) false == decide (0 < x)
def trueB (vals : List Bool) (c : List Int) : Bool := c.any (trueL vals)

theorem RdS.atB {w : World} {B : Nat → Prop} {a : Option Addr} {n c : Nat} {l : List Bool} (h : RdS w B (.slice a n c) (boos l)) {i : Nat} (hi : i < l.length) :
    ∃ b o, a = some ⟨b, o, none⟩ ∧ w.cell? ⟨b, o + i, none⟩ = some (.bool (l.getD i false)) := by
  obtain ⟨b, o, c', e, _, _, hB, hlt, hc⟩ := h.cell (i := i) (by simpa using hi)
  cases e
  exact ⟨b, o, rfl, by rw [hc, boos_get hi]⟩

set_option maxHeartbeats 4000000 in
theorem True_calls {w : World} {B B2 : Nat → Prop} {v v2 : Value} {l : List Int} {vals : List Bool} (h : RdS w B v (ints l)) (h2 : RdS w B2 v2 (boos vals)) (hl : ∀ x ∈ l, x ≠ 0 ∧ x.natAbs ≤ vals.length) (hv : vals.length ≤ 1000000) :
    Calls Try.prog 29 #[v, v2] w fun e w' => e = .returned (.bool (trueB vals l)) ∧ w = w' := by
  obtain ⟨a, c, rfl, h1, hc⟩ := h.form
  obtain ⟨a2, c2, rfl, -, hc2⟩ := h2.form
  rw [ints_length] at *
  rw [boos_length] at *
  have H := Lib.hid h
  have H2 := Lib.hid h2
  have HL := Lib.hid hl
  unfold maxLen at hc hc2
  clear h h2 hl
  go_enter Try.func29, Try.ntmps29
  go_wp2_with fail
  go_loopg [5] l.length (fun kq v5 w' => ∃ k : Nat, v5 = .int .i64 k ∧ k + kq = l.length ∧ Hid (trueB vals (l.drop k) = trueB vals l) ∧ w = w')
  case atStart => exact ⟨0, rfl, by omega, rfl, rfl⟩
  case round =>
    obtain ⟨k, rfl, hk, HG, rfl⟩ := hrel
    by_cases hlt : k < l.length
    · obtain ⟨b, o, rfl, kcell, -, -⟩ := H.out.at hlt
      have hd := drop_cons (0 : Int) hlt
      have hxx := HL.out _ (getD_mem (d := 0) hlt)
      generalize l.getD k 0 = x at *
      obtain ⟨hx0, hx1⟩ := hxx
      have hg : (trueL vals x || trueB vals (l.drop (k + 1))) = trueB vals l := by rw [← HG.out, hd]; rfl
      have HG2 := Lib.hid hg
      obtain ⟨m, hm⟩ : ∃ m : Nat, x.natAbs = m + 1 := ⟨x.natAbs - 1, by omega⟩
      obtain ⟨b2, o2, rfl, vcell⟩ := H2.out.atB (i := m) (by omega)
      have ht : trueL vals x = (vals.getD m false == decide (0 < x)) := by unfold trueL; rw [hm]; rfl
      generalize vals.getD m false = bv at *
      have HT := Lib.hid (And.intro ht hm)
      have hmv : m < vals.length := by omega
      have hxr : -1000000 ≤ x ∧ x ≤ 1000000 := by omega
      obtain ⟨hxr1, hxr2⟩ := hxr
      have HM : Hid ((x.natAbs : Int) = (m : Int) + 1) := by show (x.natAbs : Int) = (m : Int) + 1; omega
      clear HG hg hd ht hm hx1
      have b1 : (bv == decide (0 < x)) = trueL vals x := HT.out.1.symm
      rcases hb : trueL vals x with _ | _
      · rw [hb] at b1
        have HB := Lib.hid hb
        clear hb
        by_cases hs : 0 < x
        · have b2 : decide (0 < x) = true := by simp [hs]
          rw [b2] at b1
          go_wp2_with (go_at_call 49; refine (size_calls _ _ (by omega) (by omega)).mono ?_; rintro e w' ⟨rfl, rfl⟩; rw [HM.out])
          go_roundg (gk - 1)
          case measure => omega
          case rel => exact ⟨k + 1, by go_num, by omega, by show trueB vals _ = _; rw [← HG2.out, HB.out]; simp, rfl⟩
        · have b2 : decide (0 < x) = false := by simp; omega
          rw [b2] at b1
          go_wp2_with (go_at_call 49; refine (size_calls _ _ (by omega) (by omega)).mono ?_; rintro e w' ⟨rfl, rfl⟩; rw [HM.out])
          go_roundg (gk - 1)
          case measure => omega
          case rel => exact ⟨k + 1, by go_num, by omega, by show trueB vals _ = _; rw [← HG2.out, HB.out]; simp, rfl⟩
      · rw [hb] at b1
        have HB := Lib.hid hb
        clear hb
        by_cases hs : 0 < x
        · have b2 : decide (0 < x) = true := by simp [hs]
          rw [b2] at b1
          go_wp2_with (go_at_call 49; refine (size_calls _ _ (by omega) (by omega)).mono ?_; rintro e w' ⟨rfl, rfl⟩; rw [HM.out])
          go_ret
          exact ⟨ret_bool (by rw [← HG2.out, HB.out]; rfl), rfl⟩
        · have b2 : decide (0 < x) = false := by simp; omega
          rw [b2] at b1
          go_wp2_with (go_at_call 49; refine (size_calls _ _ (by omega) (by omega)).mono ?_; rintro e w' ⟨rfl, rfl⟩; rw [HM.out])
          go_ret
          exact ⟨ret_bool (by rw [← HG2.out, HB.out]; rfl), rfl⟩
    · obtain rfl : k = l.length := by omega
      go_wp2
      go_ret
      exact ⟨ret_bool (by rw [← HG.out]; simp [trueB]), rfl⟩
end Go.Proofs.Ytjbdiobnlmhidaa
namespace Go.Proofs.Ytjbdiobnlmhidaa
open Go Go.RowKit

set_option maxHeartbeats 4000000 in
theorem Ints_calls {w : World} {B B2 : Nat → Prop} {v v2 : Value} {l m : List Int} (h : RdS w B v (ints l)) (h2 : RdS w B2 v2 (ints m)) :
    Calls Try.prog 17 #[v, v2] w fun e w' => e = .returned (.bool (decide (l = m))) ∧ Same w w' := by
  obtain ⟨a, c, rfl, h1, hc⟩ := h.form
  obtain ⟨a2, c2, rfl, -, hc2⟩ := h2.form
  rw [ints_length] at *
  rw [ints_length] at *
  unfold maxLen at hc hc2
  by_cases hlen : l.length = m.length
  · have H := Lib.hid h
    have H2 := Lib.hid h2
    have HLEN := Lib.hid hlen
    have bl : ((l.length : Int) != (m.length : Int)) = false := by simp [hlen]
    have hml : m.length ≤ l.length := by omega
    have hml2 : l.length ≤ m.length := by omega
    clear h h2 hlen
    go_enter Try.func17, Try.ntmps17
    go_wp2_with fail
    go_loopg [5] l.length (fun kq v5 w' => ∃ k : Nat, v5 = .int .i64 k ∧ k + kq = l.length ∧ Hid ((l.drop k = m.drop k) ↔ l = m) ∧ Hid (Same w w'))
    case atStart => exact ⟨0, rfl, by omega, by show _ ↔ _; simp, Same.refl _⟩
    case round =>
      obtain ⟨k, rfl, hk, HG, HS⟩ := hrel
      by_cases hlt : k < l.length
      · obtain ⟨b, o, rfl, kcell, -, -⟩ := (H.out.below (HS.out.below _)).at hlt
        obtain ⟨b2, o2, rfl, kcell2, -, -⟩ := (H2.out.below (HS.out.below _)).at (i := k) (by omega)
        have hd := drop_cons (0) hlt
        have hd2 := drop_cons (l := m) (0) (show k < m.length by omega)
        generalize l.getD k 0 = x at *
        generalize m.getD k 0 = y at *
        have hlt2 : k < m.length := by omega
        have hg : (x = y ∧ l.drop (k + 1) = m.drop (k + 1)) ↔ l = m := by rw [← HG.out, hd, hd2]; simp
        have HG2 := Lib.hid hg
        have HS2 := Lib.hid HS.out.drew
        clear HG hg hd hd2
        have e1 : wr.drew.cell? ⟨b, o + k, none⟩ = some (.int .i64 x) := kcell
        have e2 : wr.drew.cell? ⟨b2, o2 + k, none⟩ = some (.int .i64 y) := kcell2
        by_cases hxy : x = y
        · have bxy : (x != y) = false := by simp [hxy]
          have bxy2 : (x == y) = true := by simp [hxy]
          have HXY := Lib.hid hxy
          clear hxy
          go_wp2_with fail
          refine wp_region_seq (fun w' => w'.cell? ⟨b, o + k, none⟩ = some (.int .i64 x) ∧ w'.cell? ⟨b2, o2 + k, none⟩ = some (.int .i64 y)) []
            [(0, 2), (1, 2), (2, 2), (3, 1), (4, 2), (5, 2), (6, 2), (7, 1), (8, 2)]
            (by kernel_rfl) (by kernel_rfl) (fun c a d v w h => by cases d <;> exact h) (by kernel_rfl) ⟨e1, e2⟩ ?_
          repeat
            first
              | refine wpSeqN_quiet (v := ?_) rfl (Or.inl ⟨rfl, ?_⟩) ?_
              | refine wpSeqN_pure (v := ?_) rfl (Or.inl ⟨rfl, ?_⟩) ?_
            rotate_left
            focus (intro w hSw; (try dsimp only at hSw); first | (go_simp; done) | (go_simp; with_reducible rfl))
            simp only [Act.put, List.setIfInBounds_toArray, List.set_cons_zero, List.set_cons_succ]
          refine wpSeqN_nil ?_
          go_wp2
          go_roundg (gk - 1)
          case measure => omega
          case rel => exact ⟨k + 1, by go_num, by omega, by show _ ↔ _; rw [← HG2.out]; simp [HXY.out], HS2⟩
        · have bxy : (x != y) = true := by simp [hxy]
          have bxy2 : (x == y) = false := by simp [hxy]
          have HXY := Lib.hid hxy
          clear hxy
          go_wp2_with fail
          refine wp_region_seq (fun w' => w'.cell? ⟨b, o + k, none⟩ = some (.int .i64 x) ∧ w'.cell? ⟨b2, o2 + k, none⟩ = some (.int .i64 y)) []
            [(0, 2), (1, 2), (2, 2), (3, 1), (4, 2), (5, 2), (6, 2), (7, 1), (8, 2)]
            (by kernel_rfl) (by kernel_rfl) (fun c a d v w h => by cases d <;> exact h) (by kernel_rfl) ⟨e1, e2⟩ ?_
          repeat
            first
              | refine wpSeqN_quiet (v := ?_) rfl (Or.inl ⟨rfl, ?_⟩) ?_
              | refine wpSeqN_pure (v := ?_) rfl (Or.inl ⟨rfl, ?_⟩) ?_
            rotate_left
            focus (intro w hSw; (try dsimp only at hSw); first | (go_simp; done) | (go_simp; with_reducible rfl))
            simp only [Act.put, List.setIfInBounds_toArray, List.set_cons_zero, List.set_cons_succ]
          refine wpSeqN_nil ?_
          go_wp2
          go_ret
          exact ⟨ret_bool (by rw [eq_comm, decide_eq_false_iff_not, ← HG2.out]; intro h; exact HXY.out h.1), HS2.out⟩
      · obtain rfl : k = l.length := by omega
        have HS2 := HS
        go_wp2
        go_ret
        exact ⟨ret_bool (by rw [eq_comm, decide_eq_true_iff, ← HG.out, List.drop_length, HLEN.out, List.drop_length]), HS2.out⟩
  · have bl : ((l.length : Int) != (m.length : Int)) = true := by simp; omega
    have HN : Hid (¬ l = m) := fun e => hlen (by rw [e])
    clear h h2 hlen
    go_enter Try.func17, Try.ntmps17
    go_wp2_with fail
    go_ret
    exact ⟨ret_bool (by rw [eq_comm, decide_eq_false_iff_not]; exact HN.out), Same.refl _⟩

set_option maxHeartbeats 4000000 in
theorem Bools_calls {w : World} {B B2 : Nat → Prop} {v v2 : Value} {l m : List Bool} (h : RdS w B v (boos l)) (h2 : RdS w B2 v2 (boos m)) :
    Calls Try.prog 33 #[v, v2] w fun e w' => e = .returned (.bool (decide (l = m))) ∧ Same w w' := by
  obtain ⟨a, c, rfl, h1, hc⟩ := h.form
  obtain ⟨a2, c2, rfl, -, hc2⟩ := h2.form
  rw [boos_length] at *
  rw [boos_length] at *
  unfold maxLen at hc hc2
  by_cases hlen : l.length = m.length
  · have H := Lib.hid h
    have H2 := Lib.hid h2
    have HLEN := Lib.hid hlen
    have bl : ((l.length : Int) != (m.length : Int)) = false := by simp [hlen]
    have hml : m.length ≤ l.length := by omega
    have hml2 : l.length ≤ m.length := by omega
    clear h h2 hlen
    go_enter Try.func33, Try.ntmps33
    go_wp2_with fail
    go_loopg [5] l.length (fun kq v5 w' => ∃ k : Nat, v5 = .int .i64 k ∧ k + kq = l.length ∧ Hid ((l.drop k = m.drop k) ↔ l = m) ∧ Hid (Same w w'))
    case atStart => exact ⟨0, rfl, by omega, by show _ ↔ _; simp, Same.refl _⟩
    case round =>
      obtain ⟨k, rfl, hk, HG, HS⟩ := hrel
      by_cases hlt : k < l.length
      · obtain ⟨b, o, rfl, kcell⟩ := (H.out.below (HS.out.below _)).atB hlt
        obtain ⟨b2, o2, rfl, kcell2⟩ := (H2.out.below (HS.out.below _)).atB (i := k) (by omega)
        have hd := drop_cons (false) hlt
        have hd2 := drop_cons (l := m) (false) (show k < m.length by omega)
        generalize l.getD k false = x at *
        generalize m.getD k false = y at *
        have hlt2 : k < m.length := by omega
        have hg : (x = y ∧ l.drop (k + 1) = m.drop (k + 1)) ↔ l = m := by rw [← HG.out, hd, hd2]; simp
        have HG2 := Lib.hid hg
        have HS2 := Lib.hid HS.out.drew
        clear HG hg hd hd2
        have e1 : wr.drew.cell? ⟨b, o + k, none⟩ = some (.bool x) := kcell
        have e2 : wr.drew.cell? ⟨b2, o2 + k, none⟩ = some (.bool y) := kcell2
        by_cases hxy : x = y
        · have bxy : (x != y) = false := by simp [hxy]
          have bxy2 : (x == y) = true := by simp [hxy]
          have HXY := Lib.hid hxy
          clear hxy
          go_wp2_with fail
          refine wp_region_seq (fun w' => w'.cell? ⟨b, o + k, none⟩ = some (.bool x) ∧ w'.cell? ⟨b2, o2 + k, none⟩ = some (.bool y)) []
            [(0, 2), (1, 2), (2, 2), (3, 1), (4, 2), (5, 2), (6, 2), (7, 1), (8, 2)]
            (by kernel_rfl) (by kernel_rfl) (fun c a d v w h => by cases d <;> exact h) (by kernel_rfl) ⟨e1, e2⟩ ?_
          repeat
            first
              | refine wpSeqN_quiet (v := ?_) rfl (Or.inl ⟨rfl, ?_⟩) ?_
              | refine wpSeqN_pure (v := ?_) rfl (Or.inl ⟨rfl, ?_⟩) ?_
            rotate_left
            focus (intro w hSw; (try dsimp only at hSw); first | (go_simp; done) | (go_simp; with_reducible rfl))
            simp only [Act.put, List.setIfInBounds_toArray, List.set_cons_zero, List.set_cons_succ]
          refine wpSeqN_nil ?_
          go_wp2
          go_roundg (gk - 1)
          case measure => omega
          case rel => exact ⟨k + 1, by go_num, by omega, by show _ ↔ _; rw [← HG2.out]; simp [HXY.out], HS2⟩
        · have bxy : (x != y) = true := by simp [hxy]
          have bxy2 : (x == y) = false := by simp [hxy]
          have HXY := Lib.hid hxy
          clear hxy
          go_wp2_with fail
          refine wp_region_seq (fun w' => w'.cell? ⟨b, o + k, none⟩ = some (.bool x) ∧ w'.cell? ⟨b2, o2 + k, none⟩ = some (.bool y)) []
            [(0, 2), (1, 2), (2, 2), (3, 1), (4, 2), (5, 2), (6, 2), (7, 1), (8, 2)]
            (by kernel_rfl) (by kernel_rfl) (fun c a d v w h => by cases d <;> exact h) (by kernel_rfl) ⟨e1, e2⟩ ?_
          repeat
            first
              | refine wpSeqN_quiet (v := ?_) rfl (Or.inl ⟨rfl, ?_⟩) ?_
              | refine wpSeqN_pure (v := ?_) rfl (Or.inl ⟨rfl, ?_⟩) ?_
            rotate_left
            focus (intro w hSw; (try dsimp only at hSw); first | (go_simp; done) | (go_simp; with_reducible rfl))
            simp only [Act.put, List.setIfInBounds_toArray, List.set_cons_zero, List.set_cons_succ]
          refine wpSeqN_nil ?_
          go_wp2
          go_ret
          exact ⟨ret_bool (by rw [eq_comm, decide_eq_false_iff_not, ← HG2.out]; intro h; exact HXY.out h.1), HS2.out⟩
      · obtain rfl : k = l.length := by omega
        have HS2 := HS
        go_wp2
        go_ret
        exact ⟨ret_bool (by rw [eq_comm, decide_eq_true_iff, ← HG.out, List.drop_length, HLEN.out, List.drop_length]), HS2.out⟩
  · have bl : ((l.length : Int) != (m.length : Int)) = true := by simp; omega
    have HN : Hid (¬ l = m) := fun e => hlen (by rw [e])
    clear h h2 hlen
    go_enter Try.func33, Try.ntmps33
    go_wp2_with fail
    go_ret
    exact ⟨ret_bool (by rw [eq_comm, decide_eq_false_iff_not]; exact HN.out), Same.refl _⟩

set_option maxHeartbeats 4000000 in
theorem kClauses_calls {w : World} {B B2 : Nat → Prop} {v v2 : Value} {l m : List (List Int)} (h : RdSS w B v l) (h2 : RdSS w B2 v2 m) :
    Calls Try.prog 18 #[v, v2] w fun e w' => e = .returned (.bool (decide (l = m))) ∧ Same w w' := by
  obtain ⟨a, c, rfl, h1, hc⟩ := h.form
  obtain ⟨a2, c2, rfl, -, hc2⟩ := h2.form
  unfold maxLen at hc hc2
  by_cases hlen : l.length = m.length
  · have H := Lib.hid h
    have H2 := Lib.hid h2
    have HLEN := Lib.hid hlen
    have bl : ((l.length : Int) != (m.length : Int)) = false := by simp [hlen]
    have hml : m.length ≤ l.length := by omega
    have hml2 : l.length ≤ m.length := by omega
    clear h h2 hlen
    go_enter Try.func18, Try.ntmps18
    go_wp2_with fail
    go_loopg [5] l.length (fun kq v5 w' => ∃ k : Nat, v5 = .int .i64 k ∧ k + kq = l.length ∧ Hid ((l.drop k = m.drop k) ↔ l = m) ∧ Hid (Same w w'))
    case atStart => exact ⟨0, rfl, by omega, by show _ ↔ _; simp, Same.refl _⟩
    case round =>
      obtain ⟨k, rfl, hk, HG, HS⟩ := hrel
      by_cases hlt : k < l.length
      · obtain ⟨b, o, a', c', rfl, kcell, hr1, -, -⟩ := (H.out.below (HS.out.below _)).at hlt
        obtain ⟨b2, o2, a2', c2', rfl, kcell2, hr2, -, -⟩ := (H2.out.below (HS.out.below _)).at (i := k) (by omega)
        have hd := drop_cons ([] : List Int) hlt
        have hd2 := drop_cons (l := m) ([] : List Int) (show k < m.length by omega)
        generalize l.getD k [] = x at *
        generalize m.getD k [] = y at *
        have hlt2 : k < m.length := by omega
        have hg : (x = y ∧ l.drop (k + 1) = m.drop (k + 1)) ↔ l = m := by rw [← HG.out, hd, hd2]; simp
        have HG2 := Lib.hid hg
        have HS2 := Lib.hid HS.out.drew
        have HC := Lib.hid (Ints_calls (hr1.below (w' := wr.drew) ((Below.refl _ _).drew)) (hr2.below (w' := wr.drew) ((Below.refl _ _).drew)))
        clear HG hg hd hd2 hr1 hr2
        have e1 : wr.drew.cell? ⟨b, o + k, none⟩ = some (.slice a' x.length c') := kcell
        have e2 : wr.drew.cell? ⟨b2, o2 + k, none⟩ = some (.slice a2' y.length c2') := kcell2
        by_cases hxy : x = y
        · rw [show decide (x = y) = true from by simp [hxy]] at HC
          have HXY := Lib.hid hxy
          clear hxy
          go_wp2_with fail
          refine wp_region_seq (fun w' => w'.cell? ⟨b, o + k, none⟩ = some (.slice a' x.length c') ∧ w'.cell? ⟨b2, o2 + k, none⟩ = some (.slice a2' y.length c2')) [8]
            [(0, 2), (1, 2), (2, 2), (3, 1), (4, 2), (5, 2), (6, 2), (7, 1), (8, 0), (9, 2)]
            (by kernel_rfl) (by kernel_rfl) (fun c a d v w h => by cases d <;> exact h) (by kernel_rfl) ⟨e1, e2⟩ ?_
          repeat
            first
              | refine wpSeqN_quiet (v := ?_) rfl (Or.inl ⟨rfl, ?_⟩) ?_
              | refine wpSeqN_pure (v := ?_) rfl (Or.inl ⟨rfl, ?_⟩) ?_
            rotate_left
            focus (intro w hSw; (try dsimp only at hSw); first | (go_simp; done) | (go_simp; with_reducible rfl))
            simp only [Act.put, List.setIfInBounds_toArray, List.set_cons_zero, List.set_cons_succ]
          refine wpSeqN_loud rfl (fun K hK => ?_)
          go_simp
          refine (HC.out).mono ?_
          rintro e w' ⟨rfl, hs⟩
          refine hK.out _ _ (fun h => absurd h (by decide)) ?_
          clear hK K
          try simp only [Act.put, List.setIfInBounds_toArray, List.set_cons_zero, List.set_cons_succ]
          have HSC := Lib.hid hs
          clear hs
          repeat
            first
              | refine wpSeqN_quiet (v := ?_) rfl (Or.inl ⟨rfl, ?_⟩) ?_
              | refine wpSeqN_pure (v := ?_) rfl (Or.inl ⟨rfl, ?_⟩) ?_
            rotate_left
            focus (intro w hSw; (try dsimp only at hSw); first | (go_simp; done) | (go_simp; with_reducible rfl))
            simp only [Act.put, List.setIfInBounds_toArray, List.set_cons_zero, List.set_cons_succ]
          refine wpSeqN_nil ?_
          go_wp2
          go_roundg (gk - 1)
          case measure => omega
          case rel => exact ⟨k + 1, by go_num, by omega, by show _ ↔ _; rw [← HG2.out]; simp [HXY.out], HS2.out.trans HSC.out⟩
        · rw [show decide (x = y) = false from by simp [hxy]] at HC
          have HXY := Lib.hid hxy
          clear hxy
          go_wp2_with fail
          refine wp_region_seq (fun w' => w'.cell? ⟨b, o + k, none⟩ = some (.slice a' x.length c') ∧ w'.cell? ⟨b2, o2 + k, none⟩ = some (.slice a2' y.length c2')) [8]
            [(0, 2), (1, 2), (2, 2), (3, 1), (4, 2), (5, 2), (6, 2), (7, 1), (8, 0), (9, 2)]
            (by kernel_rfl) (by kernel_rfl) (fun c a d v w h => by cases d <;> exact h) (by kernel_rfl) ⟨e1, e2⟩ ?_
          repeat
            first
              | refine wpSeqN_quiet (v := ?_) rfl (Or.inl ⟨rfl, ?_⟩) ?_
              | refine wpSeqN_pure (v := ?_) rfl (Or.inl ⟨rfl, ?_⟩) ?_
            rotate_left
            focus (intro w hSw; (try dsimp only at hSw); first | (go_simp; done) | (go_simp; with_reducible rfl))
            simp only [Act.put, List.setIfInBounds_toArray, List.set_cons_zero, List.set_cons_succ]
          refine wpSeqN_loud rfl (fun K hK => ?_)
          go_simp
          refine (HC.out).mono ?_
          rintro e w' ⟨rfl, hs⟩
          refine hK.out _ _ (fun h => absurd h (by decide)) ?_
          clear hK K
          try simp only [Act.put, List.setIfInBounds_toArray, List.set_cons_zero, List.set_cons_succ]
          have HSC := Lib.hid hs
          clear hs
          repeat
            first
              | refine wpSeqN_quiet (v := ?_) rfl (Or.inl ⟨rfl, ?_⟩) ?_
              | refine wpSeqN_pure (v := ?_) rfl (Or.inl ⟨rfl, ?_⟩) ?_
            rotate_left
            focus (intro w hSw; (try dsimp only at hSw); first | (go_simp; done) | (go_simp; with_reducible rfl))
            simp only [Act.put, List.setIfInBounds_toArray, List.set_cons_zero, List.set_cons_succ]
          refine wpSeqN_nil ?_
          go_wp2
          go_ret
          exact ⟨ret_bool (by rw [eq_comm, decide_eq_false_iff_not, ← HG2.out]; intro h; exact HXY.out h.1), HS2.out.trans HSC.out⟩
      · obtain rfl : k = l.length := by omega
        go_wp2
        go_ret
        exact ⟨ret_bool (by rw [eq_comm, decide_eq_true_iff, ← HG.out, List.drop_length, HLEN.out, List.drop_length]), HS.out⟩
  · have bl : ((l.length : Int) != (m.length : Int)) = true := by simp; omega
    have HN : Hid (¬ l = m) := fun e => hlen (by rw [e])
    clear h h2 hlen
    go_enter Try.func18, Try.ntmps18
    go_wp2_with fail
    go_ret
    exact ⟨ret_bool (by rw [eq_comm, decide_eq_false_iff_not]; exact HN.out), Same.refl _⟩

def longB (ll : List (List Int)) : Bool := ll.any (fun c => decide (30 < c.length))
def largeB (ll : List (List Int)) (most : Nat) : Bool := decide (most < ll.length) || longB ll

set_option maxHeartbeats 4000000 in
theorem LargeClauses_calls {w : World} {B : Nat → Prop} {v : Value} {ll : List (List Int)} (h : RdSS w B v ll) (most : Nat) (hm : most ≤ 1000) :
    Calls Try.prog 32 #[v, .int .i64 most] w fun e w' => e = .returned (.bool (largeB ll most)) ∧ w = w' := by
  obtain ⟨a, c, rfl, h1, h2⟩ := h.form
  unfold maxLen at h2
  by_cases hl : most < ll.length
  · have e : largeB ll most = true := by simp [largeB, hl]
    rw [e]
    clear e h
    go_enter Try.func32, Try.ntmps32
    go_wp2_with fail
    go_ret
    exact ⟨rfl, rfl⟩
  · have e : largeB ll most = longB ll := by simp [largeB, hl]
    rw [e]
    have H := Lib.hid h
    clear e h
    go_enter Try.func32, Try.ntmps32
    go_wp2_with fail
    go_loopg [5] ll.length (fun kq v5 w' => ∃ k : Nat, v5 = .int .i64 k ∧ k + kq = ll.length ∧ Hid (longB (ll.drop k) = longB ll) ∧ w = w')
    case atStart => exact ⟨0, rfl, by omega, rfl, rfl⟩
    case round =>
      obtain ⟨k, rfl, hk, HG, rfl⟩ := hrel
      by_cases hlt : k < ll.length
      · obtain ⟨b, o, a', c', rfl, kcell, hr, -, -⟩ := H.out.at hlt
        have hd := drop_cons ([] : List Int) hlt
        generalize ll.getD k [] = x at *
        have hg : (decide (30 < x.length) || longB (ll.drop (k + 1))) = longB ll := by rw [← HG.out, hd]; rfl
        have HG2 := Lib.hid hg
        clear HG hg hd hr
        by_cases hb : 30 < x.length
        · go_wp2
          go_ret
          exact ⟨ret_bool (by rw [← HG2.out]; simp [hb]), rfl⟩
        · go_wp2
          go_roundg (gk - 1)
          case measure => omega
          case rel => exact ⟨k + 1, by go_num, by omega, by show longB _ = _; rw [← HG2.out, show decide (30 < x.length) = false from by simp; omega]; rfl, rfl⟩
      · obtain rfl : k = ll.length := by omega
        go_wp2
        go_ret
        exact ⟨ret_bool (by rw [← HG.out]; simp [longB]), rfl⟩

/-- is a problem too large for a statement -/
def tooB (n : Int) (ll pp : List (List Int)) (l : List Int) : Bool := decide (40 < n) || (largeB ll 60 || (largeB pp 40 || decide (40 < l.length)))

set_option maxHeartbeats 4000000 in
theorem large_calls {w : World} {B B2 B3 : Nat → Prop} {v v2 v3 : Value} {ll pp : List (List Int)} {l : List Int} (h : RdSS w B v ll) (h2 : RdSS w B2 v2 pp) (h3 : RdS w B3 v3 (ints l)) (n : Int) :
    Calls Try.prog 11 #[.int .i64 n, v, v2, v3] w fun e w' => e = .returned (.bool (tooB n ll pp l)) ∧ w = w' := by
  obtain ⟨a, c, rfl, -, hc⟩ := h3.form
  rw [ints_length] at *
  have HC := Lib.hid (LargeClauses_calls h 60 (by omega))
  have HC2 := Lib.hid (LargeClauses_calls h2 40 (by omega))
  have HT : Hid (tooB n ll pp l = (decide (40 < n) || (largeB ll 60 || (largeB pp 40 || decide (40 < l.length))))) := rfl
  unfold maxLen at hc
  clear h h2 h3
  by_cases hn : 40 < n
  · have e : tooB n ll pp l = true := by rw [HT.out]; simp [hn]
    rw [e]
    clear e
    go_enter Try.func11, Try.ntmps11
    go_wp2_with fail
    go_ret
    exact ⟨rfl, rfl⟩
  · rcases hb : largeB ll 60 with _ | _
    · rw [hb] at HC
      rcases hb2 : largeB pp 40 with _ | _
      · rw [hb2] at HC2
        have e : tooB n ll pp l = decide (40 < l.length) := by rw [HT.out, hb, hb2, show decide (40 < n) = false from by simp; omega]; rfl
        rw [e]
        clear e hb hb2
        go_enter Try.func11, Try.ntmps11
        go_wp2_with fail
        refine HC.out.mono ?_
        rintro e w' ⟨rfl, rfl⟩
        go_wp2_with fail
        refine HC2.out.mono ?_
        rintro e w' ⟨rfl, rfl⟩
        go_wp2_with fail
        go_ret
        exact ⟨ret_bool (by simp; omega), rfl⟩
      · rw [hb2] at HC2
        have e : tooB n ll pp l = true := by rw [HT.out, hb, hb2]; simp
        rw [e]
        clear e hb hb2
        go_enter Try.func11, Try.ntmps11
        go_wp2_with fail
        refine HC.out.mono ?_
        rintro e w' ⟨rfl, rfl⟩
        go_wp2_with fail
        refine HC2.out.mono ?_
        rintro e w' ⟨rfl, rfl⟩
        go_wp2_with fail
        go_ret
        exact ⟨rfl, rfl⟩
    · rw [hb] at HC
      have e : tooB n ll pp l = true := by rw [HT.out, hb]; simp
      rw [e]
      clear e hb
      go_enter Try.func11, Try.ntmps11
      go_wp2_with fail
      refine HC.out.mono ?_
      rintro e w' ⟨rfl, rfl⟩
      go_wp2_with fail
      go_ret
      exact ⟨rfl, rfl⟩
end Go.Proofs.Ytjbdiobnlmhidaa
namespace Go.Proofs.Ytjbdiobnlmhidaa
open Go Go.RowKit

def satB (vals : List Bool) (ll : List (List Int)) (l : List Int) : Bool := ll.all (trueB vals) && l.all (trueL vals)

set_option maxHeartbeats 4000000 in
theorem satisfied_calls {w : World} {B B2 B3 : Nat → Prop} {v v2 v3 : Value} {ll : List (List Int)} {l : List Int} {vals : List Bool} (h : RdSS w B v ll) (h2 : RdS w B2 v2 (ints l)) (h3 : RdS w B3 v3 (boos vals))
    (hll : ∀ c ∈ ll, ∀ x ∈ c, x ≠ 0 ∧ x.natAbs ≤ vals.length) (hl : ∀ x ∈ l, x ≠ 0 ∧ x.natAbs ≤ vals.length) (hv : vals.length ≤ 1000000) :
    Calls Try.prog 26 #[v, v2, v3] w fun e w' => e = .returned (.bool (satB vals ll l)) ∧ Below w.heap.size w w' := by
  obtain ⟨a, c, rfl, h1, hc⟩ := h.form
  obtain ⟨a2, c2, rfl, h1', hc2⟩ := h2.form
  obtain ⟨a3, c3, rfl, -, hc3⟩ := h3.form
  rw [ints_length] at *
  rw [boos_length] at *
  have H := Lib.hid h
  have H2 := Lib.hid h2
  have H3 := Lib.hid h3
  have HLL := Lib.hid hll
  have HL := Lib.hid hl
  unfold maxLen at hc hc2
  clear h h2 h3 hll hl
  go_enter Try.func26, Try.ntmps26
  go_wp2_with fail
  go_loopg [7] ll.length (fun kq v7 w' => ∃ k : Nat, v7 = .int .i64 k ∧ k + kq = ll.length ∧ Hid ((ll.drop k).all (trueB vals) = ll.all (trueB vals)) ∧ w = w')
  case atStart => exact ⟨0, rfl, by omega, rfl, rfl⟩
  case round =>
    obtain ⟨k, rfl, hk, HG, rfl⟩ := hrel
    by_cases hlt : k < ll.length
    · obtain ⟨b, o, a', c', rfl, kcell, hr, -, -⟩ := H.out.at hlt
      have hd := drop_cons ([] : List Int) hlt
      have hxx := HLL.out _ (getD_mem (d := []) hlt)
      generalize ll.getD k [] = x at *
      have hg : (trueB vals x && (ll.drop (k + 1)).all (trueB vals)) = ll.all (trueB vals) := by rw [← HG.out, hd]; rfl
      have HG2 := Lib.hid hg
      have HC := Lib.hid (True_calls hr H3.out hxx hv)
      clear HG hg hd hr hxx
      rcases hb : trueB vals x with _ | _
      · have HB := Lib.hid hb
        rw [hb] at HC
        clear hb
        go_wp2_with (go_at_call 29; refine HC.out.mono ?_; rintro e w' ⟨rfl, rfl⟩)
        go_ret
        exact ⟨ret_bool (by rw [satB, ← HG2.out, HB.out]; rfl), Below.refl _ _⟩
      · have HB := Lib.hid hb
        rw [hb] at HC
        clear hb
        go_wp2_with (go_at_call 29; refine HC.out.mono ?_; rintro e w' ⟨rfl, rfl⟩)
        go_roundg (gk - 1)
        case measure => omega
        case rel => exact ⟨k + 1, by go_num, by omega, by show (ll.drop _).all _ = _; rw [← HG2.out, HB.out]; simp, rfl⟩
    · obtain rfl : k = ll.length := by omega
      have HALL : Hid (ll.all (trueB vals) = true) := by show ll.all _ = _; rw [← HG.out]; simp
      clear HG
      obtain ⟨wo, rfl⟩ : ∃ wo : World, wo = w := ⟨_, rfl⟩
      go_wp2_with fail
      go_loopg [8] l.length (fun kq v8 w' => ∃ k : Nat, v8 = .int .i64 k ∧ k + kq = l.length ∧ Hid ((l.drop k).all (trueL vals) = l.all (trueL vals)) ∧ Hid (Below wo.heap.size wo w'))
      case atStart => exact ⟨0, rfl, by omega, rfl, Below.refl _ _⟩
      case round =>
        obtain ⟨k, rfl, hk, HG, HB⟩ := hrel
        by_cases hlt : k < l.length
        · obtain ⟨b, o, rfl, kcell, -, -⟩ := (H2.out.below HB.out).at hlt
          have hd := drop_cons (0 : Int) hlt
          have hxx := HL.out _ (getD_mem (d := 0) hlt)
          generalize l.getD k 0 = x at *
          have hg : (trueL vals x && (l.drop (k + 1)).all (trueL vals)) = l.all (trueL vals) := by rw [← HG.out, hd]; rfl
          have HG2 := Lib.hid hg
          have hone : RdS (wr.alloc (.cells #[Value.int .i64 x] 3)) (fun _ => True) (.slice (some ⟨wr.heap.size, 0, none⟩) 1 1) (ints [x]) :=
            .inr ⟨wr.heap.size, 0, 1, rfl, by simp, by simp [maxLen], trivial, by simp, fun i hi => by
              have : i = 0 := by simp at hi; omega
              subst this; simp [ints]⟩
          have HB2 := Lib.hid (HB.out.alloc HB.out.size (.cells #[Value.int .i64 x] 3))
          have HC := Lib.hid (True_calls hone (H3.out.below HB2.out) (fun y hy => by simp at hy; rw [hy]; exact hxx) hv)
          have HT : Hid (trueB vals [x] = trueL vals x) := by show trueB vals [x] = _; simp [trueB]
          clear HG hg hd hone hxx HB
          rcases hb : trueL vals x with _ | _
          · have HB := Lib.hid hb
            rw [HT.out, hb] at HC
            clear hb
            go_wp2_with (go_at_call 29; refine HC.out.mono ?_; rintro e w' ⟨rfl, rfl⟩)
            go_ret
            exact ⟨ret_bool (by rw [satB, ← HG2.out, HB.out]; simp), HB2.out⟩
          · have HB := Lib.hid hb
            rw [HT.out, hb] at HC
            clear hb
            go_wp2_with (go_at_call 29; refine HC.out.mono ?_; rintro e w' ⟨rfl, rfl⟩)
            go_roundg (gk - 1)
            case measure => omega
            case rel => exact ⟨k + 1, by go_num, by omega, by show (l.drop _).all _ = _; rw [← HG2.out, HB.out]; simp, HB2⟩
        · obtain rfl : k = l.length := by omega
          go_wp2
          go_ret
          exact ⟨ret_bool (by rw [satB, HALL.out, ← HG.out]; simp), HB.out⟩

/-- a slice of slices that the call makes: its rows lie elsewhere -/
def OSS (base : Nat) (w : World) (v : Value) (ll : List (List Int)) : Prop :=
  ∃ vs : List Value, w.ownsRow base 23 1 v vs.length vs ∧ vs.length = ll.length ∧ ∀ i, i < ll.length → RdS w (fun b => v.ownBlock ≠ some b) (vs.getD i undef) (ints (ll.getD i []))

theorem OSS.rd {base : Nat} {w : World} {v : Value} {ll : List (List Int)} (h : OSS base w v ll) : RdSS w (fun _ => True) v ll := by
  obtain ⟨vs, h1, h2, h3⟩ := h
  exact ⟨vs, (RdS.of_row h1).mono (fun _ _ _ => trivial), h2, fun i hi => (h3 i hi).mono (fun _ _ _ => trivial)⟩

theorem OSS.kept {base : Nat} {w w' : World} {v : Value} {ll : List (List Int)} (h : OSS base w v ll) (hb : Below w.heap.size w w') : OSS base w' v ll := by
  obtain ⟨vs, h1, h2, h3⟩ := h
  exact ⟨vs, ownsRow_of_block h1 (fun b hb' => hb.block b (ownsRow_lt h1 b hb')), h2, fun i hi => (h3 i hi).below hb⟩

/-- one more row -/
theorem OSS.app {base : Nat} {w w' : World} {v v' x : Value} {ll : List (List Int)} {l : List Int} {vs : List Value} (h1 : w.ownsRow base 23 1 v vs.length vs) (h2 : vs.length = ll.length)
    (h3 : ∀ i, i < ll.length → RdS w (fun b => v.ownBlock ≠ some b) (vs.getD i undef) (ints (ll.getD i []))) (hx : RdS w (fun b => v.ownBlock ≠ some b) x (ints l))
    (ho : w'.ownsRow base 23 1 v' (vs ++ [x]).length (vs ++ [x])) (hg : w.grownBy w' v.ownBlock) (hat : v'.ownBlock = v.ownBlock ∨ v'.ownBlock = some w.heap.size) : OSS base w' v' (ll ++ [l]) := by
  have keep : ∀ (y : Value) (m : List Value), RdS w (fun b => v.ownBlock ≠ some b) y m → RdS w' (fun b => v'.ownBlock ≠ some b) y m := fun y m hy =>
    hy.kept hg.size fun b hlt hb => ⟨by
      rcases hat with e | e
      · rw [e]; exact hb
      · rw [e]; intro e2; cases e2; omega, hg.block b hlt (fun e => hb e.symm)⟩
  refine ⟨vs ++ [x], ho, by simp [h2], fun i hi => ?_⟩
  rw [getD_snoc, getD_snoc, h2]
  by_cases e : i < ll.length
  · rw [if_pos e, if_pos e]; exact keep _ _ (h3 i e)
  · have e2 : i = ll.length := by simp at hi; omega
    rw [if_neg e, if_neg e, if_pos e2, if_pos e2]; exact keep _ _ hx

/-- an append of a slice that may be nil to a row that the call made since w0 -/
theorem wpList_app_any {ops : Array Oper} {rest : List Oper} {o : Oper} {a : Act} {Q : Exit → Act → World → Prop} {w0 w : World} {E t : TypeId} {z : Value} {bytes : Nat}
    (ht : Try.prog.underlying t = some (.slice E)) (hinf : (Try.prog.info? E).map (fun i => (i.zero, i.size, i.bytes)) = some (some z, 1, bytes)) (hz : z.cells.size = 1)
    (hgd : o.guard = none) (s x : Operand) (ho : o.op = .call { callee := .builtin .append, args := #[s, x], argTypes := #[t, t] })
    (v : Value) (xs : List Value) (hs : a.eval s = v) (hown : w.ownsRow w0.heap.size E 1 v xs.length xs) (hbel : Below w0.heap.size w0 w)
    {B : Nat → Prop} {y : Value} (news : List Value) (hx : a.eval x = y) (hy : RdS w B y news) (h1 : ∀ u ∈ news, u.oneCell' = true)
    (hb : bytes ≤ 64) (hn : xs.length + news.length ≤ 1000000000000)
    (h : ∀ (a' : Option Addr) (n' c' : Nat) w', w'.ownsRow w0.heap.size E 1 (.slice a' n' c') (xs ++ news).length (xs ++ news) → Below w0.heap.size w0 w' → w.grownBy w' v.ownBlock → ((Value.slice a' n' c').ownBlock = v.ownBlock ∨ (Value.slice a' n' c').ownBlock = some w.heap.size) → n' = xs.length + news.length → wpList Try.prog ops Q rest (a.put o.dst (.slice a' n' c')) w') : wpList Try.prog ops Q (o :: rest) a w := by
  rcases hy.app with ⟨rfl, rfl⟩ | ⟨ad, c, rfl, hcell⟩
  · obtain ⟨i, hi, hz0, hz1, hz2⟩ := info_parts hinf
    refine wpList_plain hgd fun K hK => ?_
    have hrun := run_append_owned_none (P := Try.prog) w w0.heap.size t o.type E i 1 ht hi v xs.length xs hown
    obtain ⟨a', n', c', rfl, hn'⟩ : ∃ a' n' c', v = .slice a' n' c' ∧ n' = xs.length := by
      rcases hown.2 with ⟨rfl, e⟩ | ⟨g, cap, cur, rfl, _⟩
      · exact ⟨none, 0, 0, rfl, e.symm⟩
      · exact ⟨_, _, _, rfl, rfl⟩
    unfold Oper.wp
    simp only [execOp, ho, resolve, invoke, builtin, Sem.run_bind, Sem.run_pure, Result.andThen_ok, List.map_toArray, List.map_cons, List.map_nil, hs, hx, hrun]
    exact hK _ _ (h a' n' c' w (by simpa using hown) hbel (World.grownBy.refl _ _) (.inl rfl) (by simpa using hn'))
  · exact wpList_app_new ht hinf hz hgd s x ho v xs hs hown hbel ad news.length c news hx rfl hcell h1 hb hn h

set_option maxHeartbeats 4000000 in
theorem OwnInts_calls {w : World} {B : Nat → Prop} {v : Value} {l : List Int} (h : RdS w B v (ints l)) (hn : l.length ≤ 1000000000) :
    Calls Try.prog 14 #[v] w (NewPost w 3 (ints l)) := by
  obtain ⟨a, c, rfl, h1, h2⟩ := h.form
  rw [ints_length] at *
  have H := Lib.hid h
  clear h
  obtain ⟨i3, hi3, hz3, hs3, hb3⟩ := info_parts info3
  have HI3 := Lib.hid (And.intro hi3 (And.intro hz3 (And.intro hs3 hb3)))
  clear hi3 hz3 hs3 hb3
  go_enter Try.func14, Try.ntmps14
  go_wp2_with (at_make; refine wpList_make_own _ rfl _ _ 23 rfl w.heap.size 3 i3 (.int .i64 0) 1 Try.underlying23 HI3.out.1 HI3.out.2.1 HI3.out.2.2.1 .i64 .i64 _ (l.length + 3) rfl rfl (by omega) (by rw [HI3.out.2.2.2]; omega) (by unfold maxLen; omega) (Nat.le_refl _) ?_)
  intro w1 ho hgr
  have hb : Below w.heap.size w w1 := (Below.refl _ w).grown hgr (Nat.le_refl _) (by simp)
  have HO := Lib.hid (And.intro ho (And.intro hb (H.out.below hb)))
  clear ho hb hgr
  go_wp2_with (at_builtin; refine wpList_app_any (w0 := w) Try.underlying23 info3 rfl rfl _ _ rfl _ [] rfl HO.out.1 HO.out.2.1 (ints l) rfl HO.out.2.2 (ints_one l) (by omega) (by simp; omega) ?_)
  intro a4 n4 c4 w4 ho4 hb4 _ _ hn4
  have HO4 := Lib.hid (And.intro ho4 (And.intro hb4 hn4))
  clear ho4 hb4 hn4
  go_wp2
  go_ret
  exact ⟨a4, n4, c4, rfl, by simpa using HO4.out.1, HO4.out.2.1⟩
end Go.Proofs.Ytjbdiobnlmhidaa
namespace Go.Proofs.Ytjbdiobnlmhidaa
open Go Go.RowKit

/-- the values vs are slices with these rows -/
def RowsAt (w : World) (B : Nat → Prop) (vs : List Value) (ll : List (List Int)) : Prop :=
  vs.length = ll.length ∧ ∀ i, i < ll.length → RdS w B (vs.getD i undef) (ints (ll.getD i []))

theorem RowsAt.kept {w w' : World} {B B' : Nat → Prop} {vs : List Value} {ll : List (List Int)} (h : RowsAt w B vs ll) (hs : w.heap.size ≤ w'.heap.size) (hk : ∀ b, b < w.heap.size → B b → B' b ∧ w'.heap[b]? = w.heap[b]?) : RowsAt w' B' vs ll :=
  ⟨h.1, fun i hi => (h.2 i hi).kept hs hk⟩
theorem RowsAt.below {w w' : World} {B : Nat → Prop} {vs : List Value} {ll : List (List Int)} (h : RowsAt w B vs ll) (hb : Below w.heap.size w w') : RowsAt w' B vs ll :=
  h.kept hb.size fun b hlt hB => ⟨hB, hb.block b hlt⟩
theorem RowsAt.nil (w : World) (B : Nat → Prop) : RowsAt w B [] [] := ⟨rfl, fun i hi => absurd hi (by simp)⟩
theorem RowsAt.app {w : World} {B : Nat → Prop} {vs ms : List Value} {ll ml : List (List Int)} (h : RowsAt w B vs ll) (k : RowsAt w B ms ml) : RowsAt w B (vs ++ ms) (ll ++ ml) := by
  refine ⟨by simp [h.1, k.1], fun i hi => ?_⟩
  simp only [List.getD_eq_getElem?_getD, List.getElem?_append, h.1]
  split
  · rename_i e; simpa using h.2 i e
  · rename_i e
    have := k.2 (i - ll.length) (by simp at hi; omega)
    simpa using this
theorem RowsAt.one {w : World} {B : Nat → Prop} {x : Value} {l : List Int} (h : RdS w B x (ints l)) : RowsAt w B [x] [l] :=
  ⟨rfl, fun i hi => by have : i = 0 := by simp at hi; omega
                       subst this; exact h⟩
theorem RowsAt.set {w : World} {B : Nat → Prop} {vs : List Value} {ll : List (List Int)} (h : RowsAt w B vs ll) (k : Nat) {x : Value} {l : List Int} (hx : RdS w B x (ints l)) : RowsAt w B (vs.set k x) (ll.set k l) := by
  refine ⟨by simp [h.1], fun i hi => ?_⟩
  rw [getD_set, getD_set, h.1]
  split
  · exact hx
  · exact h.2 i (by simpa using hi)
theorem RowsAt.take {w : World} {B : Nat → Prop} {vs : List Value} {ll : List (List Int)} (h : RowsAt w B vs ll) (k : Nat) : RowsAt w B (vs.take k) (ll.take k) := by
  refine ⟨by simp [h.1], fun i hi => ?_⟩
  have hik : i < k ∧ i < ll.length := by simp at hi; omega
  have := h.2 i hik.2
  simpa [List.getD_eq_getElem?_getD, List.getElem?_take, hik.1] using this
theorem RowsAt.drop {w : World} {B : Nat → Prop} {vs : List Value} {ll : List (List Int)} (h : RowsAt w B vs ll) (k : Nat) : RowsAt w B (vs.drop k) (ll.drop k) := by
  refine ⟨by simp [h.1], fun i hi => ?_⟩
  have := h.2 (k + i) (by simp at hi; omega)
  simpa [List.getD_eq_getElem?_getD, List.getElem?_drop] using this
theorem RowsAt.one_cell {w : World} {B : Nat → Prop} {vs : List Value} {ll : List (List Int)} (h : RowsAt w B vs ll) : ∀ u ∈ vs, u.oneCell' = true := by
  intro u hu
  obtain ⟨i, hi, rfl⟩ := List.getElem_of_mem hu
  obtain ⟨a, c, e, -⟩ := (h.2 i (by rw [← h.1]; exact hi)).form
  have : vs[i] = vs.getD i undef := by simp [hi]
  rw [this, e]; rfl

theorem RdSS.rows {w : World} {B : Nat → Prop} {v : Value} {ll : List (List Int)} (h : RdSS w B v ll) : ∃ vs, RdS w B v vs ∧ RowsAt w B vs ll := h
theorem OSS.rows {base : Nat} {w : World} {v : Value} {ll : List (List Int)} (h : OSS base w v ll) : ∃ vs : List Value, w.ownsRow base 23 1 v vs.length vs ∧ RowsAt w (fun b => v.ownBlock ≠ some b) vs ll := h
theorem OSS.form {base : Nat} {w : World} {v : Value} {ll : List (List Int)} (h : OSS base w v ll) : ∃ a c, v = .slice a ll.length c ∧ ll.length ≤ c ∧ c ≤ maxLen := by
  obtain ⟨a, c, e, h1, h2⟩ := h.rd.form
  exact ⟨a, c, e, h1, h2⟩
theorem OSS.nil (base : Nat) (w : World) : OSS base w (.slice none 0 0) [] := ⟨[], World.ownsRow_nil _ _ _ _, RowsAt.nil _ _⟩
theorem OSS.ge {base : Nat} {w : World} {v : Value} {ll : List (List Int)} (h : OSS base w v ll) : ∀ b, v.ownBlock = some b → base ≤ b ∧ b < w.heap.size := by
  obtain ⟨vs, h1, -⟩ := h
  exact World.ownsRow.lt h1
theorem OSS.alloc {base : Nat} {w : World} {v : Value} {ll : List (List Int)} (h : OSS base w v ll) (o : Obj) : OSS base (w.alloc o) v ll := h.kept ((Below.refl _ w).alloc (Nat.le_refl _) o)
/-- what an own slice of slices does not hold -/
theorem RowsAt.off {base : Nat} {w w' : World} {B : Nat → Prop} {v : Value} {ll ml : List (List Int)} {ms : List Value} (h : OSS base w' v ll) (k : RowsAt w B ms ml) (hs : w.heap.size ≤ base) (hb : Below w.heap.size w w') : RowsAt w' (fun b => v.ownBlock ≠ some b) ms ml :=
  k.kept hb.size fun b hlt _ => ⟨fun e => by have := (h.ge b e).1; omega, hb.block b hlt⟩

/-- more rows -/
theorem OSS.apps {base : Nat} {w w' : World} {v v' : Value} {ll ml : List (List Int)} {vs ms : List Value} (h2 : RowsAt w (fun b => v.ownBlock ≠ some b) vs ll) (hx : RowsAt w (fun b => v.ownBlock ≠ some b) ms ml)
    (ho : w'.ownsRow base 23 1 v' (vs ++ ms).length (vs ++ ms)) (hg : w.grownBy w' v.ownBlock) (hat : v'.ownBlock = v.ownBlock ∨ v'.ownBlock = some w.heap.size) : OSS base w' v' (ll ++ ml) :=
  ⟨vs ++ ms, ho, (h2.app hx).kept hg.size fun b hlt hb => ⟨by
    rcases hat with e | e
    · rw [e]; exact hb
    · rw [e]; intro e2; cases e2; omega, hg.block b hlt (fun e => hb e.symm)⟩⟩

/-- an append of rows to a slice of slices that the call made since w0 -/
theorem wpList_pushes {ops : Array Oper} {rest : List Oper} {o : Oper} {a : Act} {Q : Exit → Act → World → Prop} {w0 w : World} (hgd : o.guard = none) (s x : Operand) (ho : o.op = .call { callee := .builtin .append, args := #[s, x], argTypes := #[22, 22] })
    (v : Value) (ll : List (List Int)) (hs : a.eval s = v) (hown : OSS w0.heap.size w v ll) (hbel : Below w0.heap.size w0 w) {B : Nat → Prop} {y : Value} (ms : List Value) (ml : List (List Int)) (hx : a.eval x = y) (hy : RdS w B y ms)
    (hr : RowsAt w (fun b => v.ownBlock ≠ some b) ms ml) (hn : ll.length + ml.length ≤ 1000000000000)
    (h : ∀ (a' : Option Addr) (n' c' : Nat) w', OSS w0.heap.size w' (.slice a' n' c') (ll ++ ml) → Below w0.heap.size w0 w' → w.grownBy w' v.ownBlock → n' = ll.length + ml.length → wpList Try.prog ops Q rest (a.put o.dst (.slice a' n' c')) w') : wpList Try.prog ops Q (o :: rest) a w := by
  obtain ⟨vs, h1, h2⟩ := hown
  refine wpList_app_any (E := 23) (t := 22) (bytes := 24) Try.underlying22 info23 rfl hgd s x ho v vs hs h1 hbel ms hx hy hr.one_cell (by omega) (by rw [h2.1, hr.1]; exact hn) ?_
  intro a' n' c' w' ho' hb' hg' hat hn'
  exact h a' n' c' w' (OSS.apps h2 hr ho' hg' hat) hb' hg' (by rw [hn', h2.1, hr.1])

theorem RdS.one_new (w : World) (x : Value) (t : TypeId) : RdS (w.alloc (.cells #[x] t)) (fun b => b = w.heap.size) (.slice (some ⟨w.heap.size, 0, none⟩) 1 1) [x] :=
  .inr ⟨w.heap.size, 0, 1, rfl, by simp, by simp [maxLen], rfl, by simp, fun i hi => by
    have : i = 0 := by simp at hi; omega
    subst this; simp⟩

theorem take_one {ll : List (List Int)} {k : Nat} (h : k < ll.length) : ll.take k ++ [ll.getD k []] = ll.take (k + 1) := by
  rw [List.take_add_one]; simp [h]
theorem take_oneI {ll : List Int} {k : Nat} (h : k < ll.length) : ll.take k ++ [ll.getD k 0] = ll.take (k + 1) := by
  rw [List.take_add_one]; simp [h]

/-- the result is a new slice of slices -/
def NewSS (w : World) (ll : List (List Int)) (e : Ending) (w' : World) : Prop :=
  ∃ a n c, e = .returned (.slice a n c) ∧ OSS w.heap.size w' (.slice a n c) ll ∧ Below w.heap.size w w'

theorem ownstep {w w1 w4 : World} {oa ra : Option Addr} {k oc rn rc : Nat} {ll : List (List Int)} {x : List Int} (HO : OSS w.heap.size w1 (.slice oa k oc) ll) (HB : Below w.heap.size w w1)
    (ho4 : w4.ownsRow w1.heap.size 3 1 (.slice ra rn rc) (ints x).length (ints x)) (hb4 : Below w1.heap.size w1 w4) :
    OSS w.heap.size (w4.alloc (.cells #[.slice ra rn rc] 23)) (.slice oa k oc) ll ∧ Below w.heap.size w (w4.alloc (.cells #[.slice ra rn rc] 23)) ∧ RowsAt (w4.alloc (.cells #[.slice ra rn rc] 23)) (fun b => (Value.slice oa k oc).ownBlock ≠ some b) [.slice ra rn rc] [x] :=
  ⟨(HO.kept hb4).alloc _, (HB.trans (hb4.mono HB.size)).alloc (Nat.le_trans HB.size hb4.size) _,
    RowsAt.one ((RdS.of_row ho4).kept (by simp) fun b hlt' hb' => ⟨fun e => by have := (HO.ge b e).2; omega, Below.heap_alloc _ _ _ hlt'⟩)⟩

set_option maxHeartbeats 4000000 in
theorem OwnClauses_calls {w : World} {B : Nat → Prop} {v : Value} {ll : List (List Int)} (h : RdSS w B v ll) (hn : ll.length ≤ 1000000000) (hx : ∀ c ∈ ll, c.length ≤ 1000000000) :
    Calls Try.prog 13 #[v] w (NewSS w ll) := by
  obtain ⟨a, c, rfl, h1, h2⟩ := h.form
  have H := Lib.hid h
  have HX := Lib.hid hx
  clear h hx
  unfold maxLen at h2
  obtain ⟨i3, hi3, hz3, hs3, hb3⟩ := info_parts info23
  have HI3 := Lib.hid (And.intro hi3 (And.intro hz3 (And.intro hs3 hb3)))
  clear hi3 hz3 hs3 hb3
  go_enter Try.func13, Try.ntmps13
  go_wp2_with (at_make; refine wpList_make_own _ rfl _ _ 22 rfl w.heap.size 23 i3 (.slice none 0 0) 1 Try.underlying22 HI3.out.1 HI3.out.2.1 HI3.out.2.2.1 .i64 .i64 _ (ll.length + 2) rfl rfl (by omega) (by rw [HI3.out.2.2.2]; omega) (by unfold maxLen; omega) (Nat.le_refl _) ?_)
  intro w1 ho hgr
  have hb : Below w.heap.size w w1 := (Below.refl _ w).grown hgr (Nat.le_refl _) (by simp)
  have HO := Lib.hid (And.intro ho hb)
  clear ho hb hgr
  go_wp2_with fail
  go_loopg [3, 4] ll.length (fun kq v3 v4 w' => ∃ (k : Nat) (oa : Option Addr) (oc : Nat), v4 = .int .i64 k ∧ k + kq = ll.length ∧ v3 = .slice oa k oc ∧ Hid (OSS w.heap.size w' (.slice oa k oc) (ll.take k)) ∧ Hid (Below w.heap.size w w'))
  case atStart => exact ⟨0, _, _, rfl, by omega, rfl, ⟨[], by simpa using HO.out.1, RowsAt.nil _ _⟩, HO.out.2⟩
  case round =>
    clear HO
    obtain ⟨k, oa, oc, rfl, hk, rfl, HO, HB⟩ := hrel
    by_cases hlt : k < ll.length
    · obtain ⟨b, o, a', c', rfl, kcell, hr, hl1, hl2⟩ := (H.out.below HB.out).at hlt
      have hxx := HX.out _ (getD_mem (d := []) hlt)
      have HT := Lib.hid (take_one hlt)
      generalize ll.getD k [] = x at *
      unfold maxLen at hl2
      have HC := Lib.hid (OwnInts_calls hr hxx)
      clear hr
      go_wp2_with (first | (go_at_call 14; refine HC.out.mono ?_; rintro e w4 ⟨ra, rn, rc, rfl, ho4, hb4⟩; have K := Lib.hid (ownstep HO.out HB.out ho4 hb4); clear ho4 hb4 HC HO HB) | (at_builtin; refine wpList_pushes (w0 := w) rfl _ _ rfl _ _ rfl K.out.1 K.out.2.1 _ [x] rfl (RdS.one_new _ _ _) K.out.2.2 (by simp; omega) ?_))
      rintro a5 n5 c5 w5 ho5 hb5 - hn5
      rw [HT.out] at ho5
      obtain rfl : n5 = k + 1 := by rw [hn5]; simp; omega
      have HO5 := Lib.hid ho5
      have HB5 := Lib.hid hb5
      clear ho5 hb5 hn5 K
      go_wp2
      go_roundg (gk - 1)
      case measure => omega
      case rel => exact ⟨k + 1, a5, c5, by go_num, by omega, rfl, HO5, HB5⟩
    · obtain rfl : k = ll.length := by omega
      go_wp2
      go_ret
      exact ⟨oa, _, oc, rfl, by simpa using HO.out, HB.out⟩
end Go.Proofs.Ytjbdiobnlmhidaa
namespace Go.Proofs.Ytjbdiobnlmhidaa
open Go Go.RowKit

theorem OSS.empty_new (w : World) {base : Nat} (h : base ≤ w.heap.size) : OSS base (w.alloc (.cells #[] 23)) (.slice (some ⟨w.heap.size, 0, none⟩) 0 0) [] :=
  ⟨[], ⟨rfl, .inr ⟨w.heap.size, 0, #[], rfl, h, by rw [alloc_heap, if_pos rfl], by simp, by simp [maxLen], rfl, rfl⟩⟩, RowsAt.nil _ _⟩

theorem unitstep {w w1 : World} {oa : Option Addr} {k oc : Nat} {ll : List (List Int)} {x : Int} (HO : OSS w.heap.size w1 (.slice oa k oc) ll) (HB : Below w.heap.size w w1) :
    OSS w.heap.size ((w1.alloc (.cells #[.int .i64 x] 3)).alloc (.cells #[.slice (some ⟨w1.heap.size, 0, none⟩) 1 1] 23)) (.slice oa k oc) ll ∧
    Below w.heap.size w ((w1.alloc (.cells #[.int .i64 x] 3)).alloc (.cells #[.slice (some ⟨w1.heap.size, 0, none⟩) 1 1] 23)) ∧
    RowsAt ((w1.alloc (.cells #[.int .i64 x] 3)).alloc (.cells #[.slice (some ⟨w1.heap.size, 0, none⟩) 1 1] 23)) (fun b => (Value.slice oa k oc).ownBlock ≠ some b) [.slice (some ⟨w1.heap.size, 0, none⟩) 1 1] [[x]] ∧
    RdS ((w1.alloc (.cells #[.int .i64 x] 3)).alloc (.cells #[.slice (some ⟨w1.heap.size, 0, none⟩) 1 1] 23)) (fun b => b = w1.heap.size + 1) (.slice (some ⟨w1.heap.size + 1, 0, none⟩) 1 1) [.slice (some ⟨w1.heap.size, 0, none⟩) 1 1] :=
  ⟨(HO.alloc _).alloc _, (HB.alloc HB.size _).alloc (by have := HB.size; simp; omega) _,
    RowsAt.one (((RdS.one_new w1 (.int .i64 x) 3).kept (by simp) fun b hlt' hb' => ⟨fun e => by have := (HO.ge b e).2; omega, Below.heap_alloc _ _ _ hlt'⟩)), by have := RdS.one_new (w1.alloc (.cells #[.int .i64 x] 3)) (.slice (some ⟨w1.heap.size, 0, none⟩) 1 1) 23; rwa [show (w1.alloc (.cells #[.int .i64 x] 3)).heap.size = w1.heap.size + 1 from by simp] at this⟩

def unitsL (ll : List (List Int)) (l : List Int) : List (List Int) := ll ++ l.map (fun x => [x])

theorem take_unit {ll : List (List Int)} {l : List Int} {k : Nat} (h : k < l.length) : unitsL ll (l.take k) ++ [[l.getD k 0]] = unitsL ll (l.take (k + 1)) := by
  rw [← take_oneI h]; simp [unitsL]

set_option maxHeartbeats 4000000 in
theorem units_calls {w : World} {B B2 : Nat → Prop} {v v2 : Value} {ll : List (List Int)} {l : List Int} (h : RdSS w B v ll) (h2 : RdS w B2 v2 (ints l)) (hn : ll.length ≤ 1000000000) (hn2 : l.length ≤ 1000000000) :
    Calls Try.prog 28 #[v, v2] w (NewSS w (unitsL ll l)) := by
  obtain ⟨a, c, rfl, h1, hc⟩ := h.form
  obtain ⟨a2, c2, rfl, h1', hc2⟩ := h2.form
  rw [ints_length] at *
  obtain ⟨vs, hv1, hv2⟩ := h.rows
  unfold maxLen at hc hc2
  have hv3 := RowsAt.off (OSS.empty_new w (Nat.le_refl _)) hv2 (Nat.le_refl _) ((Below.refl _ w).alloc (Nat.le_refl _) (.cells #[] 23))
  have K := Lib.hid (And.intro (hv1.below ((Below.refl _ w).alloc (Nat.le_refl _) (.cells #[] 23))) hv3)
  have H2 := Lib.hid h2
  clear h h2 hv1 hv2 hv3
  go_enter Try.func28, Try.ntmps28
  go_wp2_with (at_builtin; refine wpList_pushes (w0 := w) rfl _ _ rfl _ _ rfl (OSS.empty_new w (Nat.le_refl _)) ((Below.refl _ w).alloc (Nat.le_refl _) (.cells #[] 23)) _ ll rfl K.out.1 K.out.2 (by simp; omega) ?_)
  rintro a4 n4 c4 w4 ho4 hb4 - hn4
  obtain rfl : n4 = ll.length + 0 := by simpa using hn4
  have HO := Lib.hid (And.intro ho4 hb4)
  clear ho4 hb4 hn4 K
  go_wp2_with fail
  go_loopg [5, 6] l.length (fun kq v5 v6 w' => ∃ (k : Nat) (oa : Option Addr) (oc : Nat), v6 = .int .i64 k ∧ k + kq = l.length ∧ v5 = .slice oa (ll.length + k) oc ∧ Hid (OSS w.heap.size w' (.slice oa (ll.length + k) oc) (unitsL ll (l.take k))) ∧ Hid (Below w.heap.size w w'))
  case atStart => exact ⟨0, _, _, rfl, by omega, rfl, by show OSS _ _ _ _; simpa [unitsL] using HO.out.1, HO.out.2⟩
  case round =>
    clear HO
    obtain ⟨k, oa, oc, rfl, hk, rfl, HO, HB⟩ := hrel
    by_cases hlt : k < l.length
    · obtain ⟨b, o, rfl, kcell, -, -⟩ := (H2.out.below HB.out).at hlt
      have HT := Lib.hid (take_unit (ll := ll) hlt)
      have HL : Hid ((unitsL ll (l.take k)).length = ll.length + k) := by show List.length _ = _; simp [unitsL]; omega
      generalize l.getD k 0 = x at *
      have K := Lib.hid (unitstep (x := x) HO.out HB.out)
      clear HO HB
      go_wp2_with (at_builtin; refine wpList_pushes (w0 := w) rfl _ _ rfl _ _ rfl K.out.1 K.out.2.1 _ [[x]] rfl K.out.2.2.2 K.out.2.2.1 (by rw [HL.out]; simp; omega) ?_)
      rintro a5 n5 c5 w5 ho5 hb5 - hn5
      rw [HT.out] at ho5
      obtain rfl : n5 = ll.length + (k + 1) := by have h9 := HL.out; try simp only [List.length_cons, List.length_nil] at hn5
                                                  omega
      have HO5 := Lib.hid ho5
      have HB5 := Lib.hid hb5
      clear ho5 hb5 hn5 K
      go_wp2
      go_roundg (gk - 1)
      case measure => omega
      case rel => exact ⟨k + 1, a5, c5, by go_num, by omega, rfl, HO5, HB5⟩
    · obtain rfl : k = l.length := by omega
      go_wp2
      go_ret
      exact ⟨oa, _, oc, rfl, by simpa using HO.out, HB.out⟩

theorem made_any (z : Value) (n : Nat) : (madeCells #[z] n).toList = List.replicate n z := by
  apply List.ext_getElem
  · simp [madeCells]
  · intro i h1 h2
    simp [madeCells, Nat.mod_one]

theorem OSS.set {base : Nat} {w : World} {b c n : Nat} {ll : List (List Int)} (h : OSS base w (.slice (some ⟨b, 0, none⟩) n c) ll) (hn : n = ll.length) (k : Nat) {x : Value} {l : List Int} (hx : RdS w (fun g => b ≠ g) x (ints l)) :
    OSS base (w.setCell ⟨b, k, none⟩ x) (.slice (some ⟨b, 0, none⟩) n c) (ll.set k l) := by
  obtain ⟨vs, h1, h2⟩ := h.rows
  have h3 : RowsAt w (fun g => (Value.slice (some ⟨b, 0, none⟩) n c).ownBlock ≠ some g) (vs.set k x) (ll.set k l) := h2.set k (hx.mono fun g _ hg e => hg (by simpa [Value.ownBlock] using e))
  have hvl : vs.length = n := by rw [h2.1, hn]
  refine ⟨vs.set k x, ?_, h3.kept (by rw [setCell_size]; exact Nat.le_refl _) fun g hlt hg => ⟨hg, setCell_heap_other x (fun e => hg (by rw [e]; rfl))⟩⟩
  rw [List.length_set]
  rw [hvl] at h1 ⊢
  exact ownsRow_set h1 k x

theorem copy_step (ll : List (List Int)) (k : Nat) (h : k < ll.length) : (ll.take k ++ List.replicate (ll.length - k) []).set k (ll.getD k []) = ll.take (k + 1) ++ List.replicate (ll.length - (k + 1)) [] := by
  have e1 : (ll.take k).length = k := by simp; omega
  rw [← take_one h, show ll.length - k = (ll.length - (k + 1)) + 1 from by omega, List.replicate_succ, List.set_append, e1, if_neg (by omega), Nat.sub_self]
  simp

theorem copystep {w w1 w4 : World} {g n c : Nat} {ra : Option Addr} {rn rc : Nat} {ll : List (List Int)} {l : List Int} {k : Nat} (HO : OSS w.heap.size w1 (.slice (some ⟨g, 0, none⟩) n c) ll) (hn : n = ll.length) (HB : Below w.heap.size w w1)
    (ho4 : w4.ownsRow w1.heap.size 3 1 (.slice ra rn rc) (ints l).length (ints l)) (hb4 : Below w1.heap.size w1 w4) :
    OSS w.heap.size (w4.setCell ⟨g, k, none⟩ (.slice ra rn rc)) (.slice (some ⟨g, 0, none⟩) n c) (ll.set k l) ∧ Below w.heap.size w (w4.setCell ⟨g, k, none⟩ (.slice ra rn rc)) := by
  have hge := HO.ge g rfl
  refine ⟨(HO.kept hb4).set hn k ((RdS.of_row ho4).mono fun b hlt hb e => by omega), ?_⟩
  exact (HB.trans (hb4.mono HB.size)).setCell (p := ⟨g, k, none⟩) hge.1 _

set_option maxHeartbeats 4000000 in
theorem copies_calls {w : World} {B : Nat → Prop} {v : Value} {ll : List (List Int)} (h : RdSS w B v ll) (hn : ll.length ≤ 1000000000) (hx : ∀ c ∈ ll, c.length ≤ 1000000000) :
    Calls Try.prog 48 #[v] w (NewSS w ll) := by
  obtain ⟨a, c, rfl, h1, hc⟩ := h.form
  unfold maxLen at hc
  have H := Lib.hid h
  have HX := Lib.hid hx
  clear h hx
  obtain ⟨i3, hi3, hz3, hs3, hb3⟩ := info_parts info23
  have HI3 := Lib.hid (And.intro hi3 (And.intro hz3 (And.intro hs3 hb3)))
  clear hi3 hz3 hs3 hb3
  go_enter Try.func48, Try.ntmps48
  go_wp2_with (at_make; refine wpList_make_full _ rfl _ _ 22 rfl w.heap.size 23 i3 (.slice none 0 0) 1 Try.underlying22 HI3.out.1 HI3.out.2.1 HI3.out.2.2.1 .i64 .i64 ll.length ll.length ll.length rfl rfl rfl rfl (by rw [HI3.out.2.2.2]; omega) (by unfold maxLen; omega) (Nat.le_refl _) ?_)
  intro w1 ho hgr
  rw [made_any] at ho
  have hb : Below w.heap.size w w1 := (Below.refl _ w).grown hgr (Nat.le_refl _) (by simp)
  have ho2 : OSS w.heap.size w1 (.slice (some ⟨w.heap.size, 0, none⟩) ll.length ll.length) (List.replicate ll.length []) :=
    ⟨_, by rw [List.length_replicate]; exact ho, by simp, fun i hi => .inl ⟨by simp at hi; simp [hi], by simp at hi; simp [ints, hi]⟩⟩
  have HO := Lib.hid (And.intro ho2 hb)
  clear ho ho2 hb hgr
  go_wp2_with fail
  go_loopg [11] ll.length (fun kq v11 w' => ∃ (k : Nat), v11 = .int .i64 k ∧ k + kq = ll.length ∧ Hid (OSS w.heap.size w' (.slice (some ⟨w.heap.size, 0, none⟩) ll.length ll.length) (ll.take k ++ List.replicate (ll.length - k) [])) ∧ Hid (Below w.heap.size w w'))
  case atStart => exact ⟨0, rfl, by omega, by show OSS _ _ _ _; simpa using HO.out.1, HO.out.2⟩
  case round =>
    clear HO
    obtain ⟨k, rfl, hk, HO, HB⟩ := hrel
    by_cases hlt : k < ll.length
    · obtain ⟨b, o, a', c', rfl, kcell, hr, hl1, hl2⟩ := (H.out.below HB.out).at hlt
      have hxx := HX.out _ (getD_mem (d := []) hlt)
      have HT := Lib.hid (copy_step ll k hlt)
      have HL : Hid (ll.length = (ll.take k ++ List.replicate (ll.length - k) ([] : List Int)).length) := by show _ = List.length _; simp; omega
      generalize ll.getD k [] = x at *
      unfold maxLen at hl2
      have HR := Lib.hid hr
      clear hr
      go_wp2_with (at_builtin; refine wpList_app_any (w0 := wr) (E := 3) (t := 23) (bytes := 8) Try.underlying23 info3 rfl rfl _ _ rfl _ [] rfl (World.ownsRow_nil _ _ _ _) (Below.refl _ _) (ints x) rfl HR.out (ints_one x) (by omega) (by simp; omega) ?_)
      rintro a5 n5 c5 w5 ho5 hb5 - - hn5
      rw [← ints_length x] at ho5
      have hge := HO.out.ge _ rfl
      have hset := copystep (k := k) HO.out HL.out HB.out ho5 hb5
      rw [HT.out] at hset
      have hfz : ∃ z, w5.cell? ⟨w.heap.size, k, none⟩ = some z ∧ w5.frozen? ⟨w.heap.size, k, none⟩ = false := by
        obtain ⟨vs, hv1, hv2⟩ := (HO.out.kept hb5).rows
        have e : vs.length = ll.length := by rw [hv2.1]; exact HL.out.symm
        rw [e] at hv1
        obtain ⟨x1, x2, -⟩ := ownsRow_cell hv1 hlt
        exact ⟨vs[k]'(by omega), by rw [x1]; simp, x2⟩
      obtain ⟨z, zcell, zfz⟩ := hfz
      have K := Lib.hid hset
      clear hset ho5 hb5 hn5 HR HO HB hge
      go_wp2
      go_roundg (gk - 1)
      case measure => omega
      case rel => exact ⟨k + 1, by go_num, by omega, K.out.1, K.out.2⟩
    · obtain rfl : k = ll.length := by omega
      go_wp2
      go_ret
      exact ⟨_, _, _, rfl, by simpa using HO.out, HB.out⟩
end Go.Proofs.Ytjbdiobnlmhidaa
namespace Go.Proofs.Ytjbdiobnlmhidaa
open Go Go.RowKit

theorem sub_step {α : Type} [BEq α] [LawfulBEq α] [DecidableEq α] (d : α) (a b : List α) {k i : Nat} (hk : k < a.length) (hi : i < b.length) :
    (a.drop k).isSublist (b.drop i) = if a.getD k d = b.getD i d then (a.drop (k + 1)).isSublist (b.drop (i + 1)) else (a.drop k).isSublist (b.drop (i + 1)) := by
  rw [drop_cons d hk, drop_cons d hi]
  simp only [List.isSublist, beq_iff_eq]
theorem sub_done {α : Type} [BEq α] (a b : List α) : (a.drop a.length).isSublist b = true := by cases b <;> simp [List.isSublist]
theorem sub_out {α : Type} [BEq α] (d : α) (a : List α) {k : Nat} (hk : k < a.length) : (a.drop k).isSublist ([] : List α) = false := by rw [drop_cons d hk]; rfl

theorem nodup_step {a : List Int} {i : Nat} (hi : i < a.length) (h : (a.take i).Nodup) (h2 : ∀ t, t < i → a.getD i 0 ≠ a.getD t 0) : (a.take (i + 1)).Nodup := by
  rw [← take_oneI hi, List.nodup_append]
  refine ⟨h, by simp, fun x hx y hy => ?_⟩
  obtain rfl : y = a.getD i 0 := by simpa using hy
  obtain ⟨t, ht, rfl⟩ := List.getElem_of_mem hx
  have hti : t < i := by simp at ht; omega
  have := h2 t hti
  simpa [show t < a.length by omega] using this.symm
theorem nodup_not {a : List Int} {i j : Nat} (hi : i < a.length) (hj : j < i) (h : a.getD i 0 = a.getD j 0) : ¬ a.Nodup := by
  intro hn
  have := (List.pairwise_iff_getElem.1 hn) j i (by omega) hi hj
  apply this
  simpa [hi, show j < a.length by omega] using h.symm

def chosenB (a b : List Int) : Bool := a.isSublist b && decide a.Nodup

set_option maxHeartbeats 4000000 in
theorem chosen_calls {w : World} {B B2 : Nat → Prop} {v v2 : Value} {a b : List Int} (h : RdS w B v (ints a)) (h2 : RdS w B2 v2 (ints b)) :
    Calls Try.prog 27 #[v, v2] w fun e w' => e = .returned (.bool (chosenB a b)) ∧ Same w w' := by
  obtain ⟨a1, c1, rfl, h1, hc⟩ := h.form
  obtain ⟨a2, c2, rfl, h1', hc2⟩ := h2.form
  rw [ints_length] at *
  rw [ints_length] at *
  unfold maxLen at hc hc2
  have H := Lib.hid h
  have H2 := Lib.hid h2
  clear h h2
  go_enter Try.func27, Try.ntmps27
  go_wp2_with fail
  go_loopg [5, 6] b.length (fun kq v5 v6 w' => ∃ (k i : Nat), v5 = .int .i64 k ∧ v6 = .int .i64 i ∧ i + kq = b.length ∧ k ≤ a.length ∧ Hid ((a.drop k).isSublist (b.drop i) = a.isSublist b) ∧ Hid (Same w w'))
  case atStart => exact ⟨0, 0, rfl, rfl, by omega, by omega, rfl, Same.refl _⟩
  case round =>
    obtain ⟨k, i, rfl, rfl, hi, hka, HG, HS⟩ := hrel
    by_cases hk : k < a.length
    · by_cases hlt : i < b.length
      · obtain ⟨g, o, rfl, kcell, -, -⟩ := (H.out.below (HS.out.below _)).at hk
        obtain ⟨g2, o2, rfl, kcell2, -, -⟩ := (H2.out.below (HS.out.below _)).at hlt
        have hst := sub_step 0 a b hk hlt
        rw [HG.out] at hst
        generalize a.getD k 0 = x at *
        generalize b.getD i 0 = y at *
        have HST := Lib.hid hst
        have HS2 := Lib.hid HS.out.drew
        clear HG hst
        have e1 : wr.drew.cell? ⟨g, o + k, none⟩ = some (.int .i64 x) := kcell
        have e2 : wr.drew.cell? ⟨g2, o2 + i, none⟩ = some (.int .i64 y) := kcell2
        by_cases hxy : x = y
        · have bxy : (x == y) = true := by simp [hxy]
          have HXY := Lib.hid hxy
          clear hxy
          go_wp2_with fail
          refine wp_region_seq (fun w' => w'.cell? ⟨g, o + k, none⟩ = some (.int .i64 x) ∧ w'.cell? ⟨g2, o2 + i, none⟩ = some (.int .i64 y)) []
            [(0, 2), (1, 2), (2, 2), (3, 1), (4, 2), (5, 2), (6, 2), (7, 1), (8, 2)]
            (by kernel_rfl) (by kernel_rfl) (fun c a d v w h => by cases d <;> exact h) (by kernel_rfl) ⟨e1, e2⟩ ?_
          repeat
            first
              | refine wpSeqN_quiet (v := ?_) rfl (Or.inl ⟨rfl, ?_⟩) ?_
              | refine wpSeqN_pure (v := ?_) rfl (Or.inl ⟨rfl, ?_⟩) ?_
            rotate_left
            focus (intro w hSw; (try dsimp only at hSw); first | (go_simp; done) | (go_simp; with_reducible rfl))
            simp only [Act.put, List.setIfInBounds_toArray, List.set_cons_zero, List.set_cons_succ]
          refine wpSeqN_nil ?_
          go_wp2
          go_roundg (gk - 1)
          case measure => omega
          case rel => exact ⟨k + 1, i + 1, by go_num, by go_num, by omega, by omega, by show List.isSublist _ _ = _; rw [HST.out, if_pos HXY.out], HS2⟩
        · have bxy : (x == y) = false := by simp [hxy]
          have HXY := Lib.hid hxy
          clear hxy
          go_wp2_with fail
          refine wp_region_seq (fun w' => w'.cell? ⟨g, o + k, none⟩ = some (.int .i64 x) ∧ w'.cell? ⟨g2, o2 + i, none⟩ = some (.int .i64 y)) []
            [(0, 2), (1, 2), (2, 2), (3, 1), (4, 2), (5, 2), (6, 2), (7, 1), (8, 2)]
            (by kernel_rfl) (by kernel_rfl) (fun c a d v w h => by cases d <;> exact h) (by kernel_rfl) ⟨e1, e2⟩ ?_
          repeat
            first
              | refine wpSeqN_quiet (v := ?_) rfl (Or.inl ⟨rfl, ?_⟩) ?_
              | refine wpSeqN_pure (v := ?_) rfl (Or.inl ⟨rfl, ?_⟩) ?_
            rotate_left
            focus (intro w hSw; (try dsimp only at hSw); first | (go_simp; done) | (go_simp; with_reducible rfl))
            simp only [Act.put, List.setIfInBounds_toArray, List.set_cons_zero, List.set_cons_succ]
          refine wpSeqN_nil ?_
          go_wp2
          go_roundg (gk - 1)
          case measure => omega
          case rel => exact ⟨k, i + 1, rfl, by go_num, by omega, by omega, by show List.isSublist _ _ = _; rw [HST.out, if_neg HXY.out], HS2⟩
      · have HF : Hid (a.isSublist b = false) := by
          show _ = _
          rw [← HG.out, show b.drop i = [] from List.drop_eq_nil_of_le (by omega)]
          exact sub_out 0 a hk
        go_wp2
        go_ret
        exact ⟨ret_bool (by rw [chosenB, HF.out]; rfl), HS.out⟩
    · obtain rfl : k = a.length := by omega
      have HT : Hid (a.isSublist b = true) := by show _ = _; rw [← HG.out]; exact sub_done _ _
      have HS3 := Lib.hid HS.out
      clear HG HS
      obtain ⟨wo, ewo⟩ : ∃ wo : World, wo = wr := ⟨_, rfl⟩
      by_cases hlt : i < b.length
      all_goals (
        go_wp2_with fail
        go_loopg [7] a.length (fun kq v7 w' => ∃ (p : Nat), v7 = .int .i64 p ∧ p + kq = a.length ∧ Hid ((a.take p).Nodup) ∧ Hid (Same w w'))
        case atStart => exact ⟨0, rfl, by omega, by show List.Nodup _; simp, HS3⟩
        case round =>
          clear HS3
          obtain ⟨p, rfl, hp, HN, HS⟩ := hrel
          by_cases hpl : p < a.length
          · go_wp2_with fail
            obtain ⟨ko, rfl⟩ : ∃ ko : Nat, ko = gk := ⟨_, rfl⟩
            obtain ⟨w1, ew1⟩ : ∃ w1 : World, w1 = wr := ⟨_, rfl⟩
            go_loopg [8] p (fun kq v8 w' => ∃ (q : Nat), v8 = .int .i64 q ∧ q + kq = p ∧ Hid (∀ t, t < q → a.getD p 0 ≠ a.getD t 0) ∧ Hid (Same w w'))
            case atStart => exact ⟨0, rfl, by omega, fun t ht => absurd ht (by omega), HS⟩
            case round =>
              clear HS ew1
              obtain ⟨q, rfl, hq, HQ, HS⟩ := hrel
              by_cases hqp : q < p
              · obtain ⟨g, o, rfl, kcell, -, -⟩ := (H.out.below (HS.out.below _)).at hpl
                obtain ⟨g', o', ee, kcell2, -, -⟩ := (H.out.below (HS.out.below _)).at (i := q) (by omega)
                cases ee
                have hqa : q < a.length := by omega
                have hall : a.getD p 0 ≠ a.getD q 0 → ∀ t, t < q + 1 → a.getD p 0 ≠ a.getD t 0 := fun h t ht => by
                  rcases Nat.lt_or_ge t q with h1 | h1
                  · exact HQ.out t h1
                  · obtain rfl : t = q := by omega
                    exact h
                have hbad : a.getD p 0 = a.getD q 0 → ¬ a.Nodup := nodup_not hpl hqp
                have HX := Lib.hid (And.intro hall hbad)
                have HS2 := Lib.hid HS.out.drew
                clear HQ hall hbad
                have e1 : wr.drew.cell? ⟨g, o + p, none⟩ = some (.int .i64 (a.getD p 0)) := kcell
                have e2 : wr.drew.cell? ⟨g, o + q, none⟩ = some (.int .i64 (a.getD q 0)) := kcell2
                by_cases hxy : a.getD p 0 = a.getD q 0
                · have bxy : (a.getD p 0 == a.getD q 0) = true := by simp only [beq_iff_eq]; exact hxy
                  have HXY := Lib.hid hxy
                  clear hxy
                  generalize hx : a.getD p 0 = x at *
                  generalize hy : a.getD q 0 = y at *
                  go_wp2_with fail
                  refine wp_region_seq (fun w' => w'.cell? ⟨g, o + p, none⟩ = some (.int .i64 x) ∧ w'.cell? ⟨g, o + q, none⟩ = some (.int .i64 y)) []
                    [(0, 2), (1, 2), (2, 2), (3, 1), (4, 2), (5, 2), (6, 2), (7, 1), (8, 2)]
                    (by kernel_rfl) (by kernel_rfl) (fun c a d v w h => by cases d <;> exact h) (by kernel_rfl) ⟨e1, e2⟩ ?_
                  repeat
                    first
                      | refine wpSeqN_quiet (v := ?_) rfl (Or.inl ⟨rfl, ?_⟩) ?_
                      | refine wpSeqN_pure (v := ?_) rfl (Or.inl ⟨rfl, ?_⟩) ?_
                    rotate_left
                    focus (intro w hSw; (try dsimp only at hSw); first | (go_simp; done) | (go_simp; with_reducible rfl))
                    simp only [Act.put, List.setIfInBounds_toArray, List.set_cons_zero, List.set_cons_succ]
                  refine wpSeqN_nil ?_
                  go_wp2
                  go_ret
                  exact ⟨ret_bool (by rw [chosenB, decide_eq_false (HX.out.2 HXY.out)]; simp), HS2.out⟩
                · have bxy : (a.getD p 0 == a.getD q 0) = false := by simp only [beq_eq_false_iff_ne]; exact hxy
                  have HXY := Lib.hid (HX.out.1 hxy)
                  clear hxy HX
                  generalize hx : a.getD q 0 = y at *
                  generalize hy : a.getD p 0 = x at *
                  go_wp2_with fail
                  refine wp_region_seq (fun w' => w'.cell? ⟨g, o + p, none⟩ = some (.int .i64 x) ∧ w'.cell? ⟨g, o + q, none⟩ = some (.int .i64 y)) []
                    [(0, 2), (1, 2), (2, 2), (3, 1), (4, 2), (5, 2), (6, 2), (7, 1), (8, 2)]
                    (by kernel_rfl) (by kernel_rfl) (fun c a d v w h => by cases d <;> exact h) (by kernel_rfl) ⟨e1, e2⟩ ?_
                  repeat
                    first
                      | refine wpSeqN_quiet (v := ?_) rfl (Or.inl ⟨rfl, ?_⟩) ?_
                      | refine wpSeqN_pure (v := ?_) rfl (Or.inl ⟨rfl, ?_⟩) ?_
                    rotate_left
                    focus (intro w hSw; (try dsimp only at hSw); first | (go_simp; done) | (go_simp; with_reducible rfl))
                    simp only [Act.put, List.setIfInBounds_toArray, List.set_cons_zero, List.set_cons_succ]
                  refine wpSeqN_nil ?_
                  go_wp2
                  go_roundg (gk - 1)
                  case measure => omega
                  case rel => exact ⟨q + 1, by go_num, by omega, HXY, HS2⟩
              · obtain rfl : q = p := by omega
                have HN2 := Lib.hid (nodup_step hpl HN.out HQ.out)
                clear HN HQ
                go_wp2
                go_roundg (ko - 1)
                case measure => omega
                case rel => exact ⟨q + 1, by go_num, by omega, HN2, HS⟩
          · obtain rfl : p = a.length := by omega
            have HNA : Hid a.Nodup := by have := HN.out; rwa [List.take_length] at this
            go_wp2
            go_ret
            exact ⟨ret_bool (by rw [chosenB, HT.out, decide_eq_true HNA.out]; rfl), HS.out⟩)

def withinB (a b : List (List Int)) : Bool := a.isSublist b

set_option maxHeartbeats 4000000 in
theorem Within_calls {w : World} {B B2 : Nat → Prop} {v v2 : Value} {a b : List (List Int)} (h : RdSS w B v a) (h2 : RdSS w B2 v2 b) :
    Calls Try.prog 31 #[v, v2] w fun e w' => e = .returned (.bool (withinB a b)) ∧ Same w w' := by
  obtain ⟨a1, c1, rfl, h1, hc⟩ := h.form
  obtain ⟨a2, c2, rfl, h1', hc2⟩ := h2.form
  unfold maxLen at hc hc2
  have H := Lib.hid h
  have H2 := Lib.hid h2
  clear h h2
  go_enter Try.func31, Try.ntmps31
  go_wp2_with fail
  go_loopg [5, 6] b.length (fun kq v5 v6 w' => ∃ (k i : Nat), v5 = .int .i64 k ∧ v6 = .int .i64 i ∧ i + kq = b.length ∧ k ≤ a.length ∧ Hid ((a.drop k).isSublist (b.drop i) = a.isSublist b) ∧ Hid (Same w w'))
  case atStart => exact ⟨0, 0, rfl, rfl, by omega, by omega, rfl, Same.refl _⟩
  case round =>
    obtain ⟨k, i, rfl, rfl, hi, hka, HG, HS⟩ := hrel
    by_cases hk : k < a.length
    · by_cases hlt : i < b.length
      · obtain ⟨g, o, a', c', rfl, kcell, hr, -, -⟩ := (H.out.below (HS.out.below _)).at hk
        obtain ⟨g2, o2, a2', c2', rfl, kcell2, hr2, -, -⟩ := (H2.out.below (HS.out.below _)).at hlt
        have hst := sub_step [] a b hk hlt
        rw [HG.out] at hst
        generalize a.getD k [] = x at *
        generalize b.getD i [] = y at *
        have HST := Lib.hid hst
        have HC := Lib.hid (Ints_calls (hr.below (w' := wr.drew) ((Below.refl _ _).drew)) (hr2.below (w' := wr.drew) ((Below.refl _ _).drew)))
        have HS2 := Lib.hid HS.out.drew
        clear HG hst hr hr2
        have e1 : wr.drew.cell? ⟨g, o + k, none⟩ = some (.slice a' x.length c') := kcell
        have e2 : wr.drew.cell? ⟨g2, o2 + i, none⟩ = some (.slice a2' y.length c2') := kcell2
        by_cases hxy : x = y
        · rw [show decide (x = y) = true from by simp [hxy]] at HC
          have HXY := Lib.hid hxy
          clear hxy
          go_wp2_with fail
          refine wp_region_seq (fun w' => w'.cell? ⟨g, o + k, none⟩ = some (.slice a' x.length c') ∧ w'.cell? ⟨g2, o2 + i, none⟩ = some (.slice a2' y.length c2')) [8]
            [(0, 2), (1, 2), (2, 2), (3, 1), (4, 2), (5, 2), (6, 2), (7, 1), (8, 0)]
            (by kernel_rfl) (by kernel_rfl) (fun c a d v w h => by cases d <;> exact h) (by kernel_rfl) ⟨e1, e2⟩ ?_
          repeat
            first
              | refine wpSeqN_quiet (v := ?_) rfl (Or.inl ⟨rfl, ?_⟩) ?_
              | refine wpSeqN_pure (v := ?_) rfl (Or.inl ⟨rfl, ?_⟩) ?_
            rotate_left
            focus (intro w hSw; (try dsimp only at hSw); first | (go_simp; done) | (go_simp; with_reducible rfl))
            simp only [Act.put, List.setIfInBounds_toArray, List.set_cons_zero, List.set_cons_succ]
          refine wpSeqN_loud rfl (fun K hK => ?_)
          go_simp
          refine (HC.out).mono ?_
          rintro e w' ⟨rfl, hs⟩
          refine hK.out _ _ (fun h => absurd h (by decide)) ?_
          clear hK K
          try simp only [Act.put, List.setIfInBounds_toArray, List.set_cons_zero, List.set_cons_succ]
          have HSC := Lib.hid (HS2.out.trans hs)
          clear hs
          refine wpSeqN_nil ?_
          go_wp2
          go_roundg (gk - 1)
          case measure => omega
          case rel => exact ⟨k + 1, i + 1, by go_num, by go_num, by omega, by omega, by show List.isSublist _ _ = _; rw [HST.out, if_pos HXY.out], HSC⟩
        · rw [show decide (x = y) = false from by simp [hxy]] at HC
          have HXY := Lib.hid hxy
          clear hxy
          go_wp2_with fail
          refine wp_region_seq (fun w' => w'.cell? ⟨g, o + k, none⟩ = some (.slice a' x.length c') ∧ w'.cell? ⟨g2, o2 + i, none⟩ = some (.slice a2' y.length c2')) [8]
            [(0, 2), (1, 2), (2, 2), (3, 1), (4, 2), (5, 2), (6, 2), (7, 1), (8, 0)]
            (by kernel_rfl) (by kernel_rfl) (fun c a d v w h => by cases d <;> exact h) (by kernel_rfl) ⟨e1, e2⟩ ?_
          repeat
            first
              | refine wpSeqN_quiet (v := ?_) rfl (Or.inl ⟨rfl, ?_⟩) ?_
              | refine wpSeqN_pure (v := ?_) rfl (Or.inl ⟨rfl, ?_⟩) ?_
            rotate_left
            focus (intro w hSw; (try dsimp only at hSw); first | (go_simp; done) | (go_simp; with_reducible rfl))
            simp only [Act.put, List.setIfInBounds_toArray, List.set_cons_zero, List.set_cons_succ]
          refine wpSeqN_loud rfl (fun K hK => ?_)
          go_simp
          refine (HC.out).mono ?_
          rintro e w' ⟨rfl, hs⟩
          refine hK.out _ _ (fun h => absurd h (by decide)) ?_
          clear hK K
          try simp only [Act.put, List.setIfInBounds_toArray, List.set_cons_zero, List.set_cons_succ]
          have HSC := Lib.hid (HS2.out.trans hs)
          clear hs
          refine wpSeqN_nil ?_
          go_wp2
          go_roundg (gk - 1)
          case measure => omega
          case rel => exact ⟨k, i + 1, rfl, by go_num, by omega, by omega, by show List.isSublist _ _ = _; rw [HST.out, if_neg HXY.out], HSC⟩
      · have HF : Hid (a.isSublist b = false) := by
          show _ = _
          rw [← HG.out, show b.drop i = [] from List.drop_eq_nil_of_le (by omega)]
          exact sub_out [] a hk
        have bka : ((k : Int) == (a.length : Int)) = false := by simp; omega
        go_wp2
        go_ret
        exact ⟨ret_bool (by rw [withinB, HF.out]), HS.out⟩
    · obtain rfl : k = a.length := by omega
      have HT : Hid (a.isSublist b = true) := by show _ = _; rw [← HG.out]; exact sub_done _ _
      have HS3 := Lib.hid HS.out
      clear HG HS
      by_cases hlt : i < b.length
      all_goals (
        go_wp2
        go_ret
        exact ⟨ret_bool (by rw [withinB, HT.out]), HS3.out⟩)
end Go.Proofs.Ytjbdiobnlmhidaa
