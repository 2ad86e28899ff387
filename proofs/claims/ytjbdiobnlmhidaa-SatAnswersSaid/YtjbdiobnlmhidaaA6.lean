/- Proved here: the reference computes unit propagation and checks proofs as the plain functions say. Conditions: those that each theorem states. -/
import Derived.Test.YtjbdiobnlmhidaaA5
import Derived.Test.YtjbdiobnlmhidaaA1
set_option linter.unusedVariables false
set_option linter.unusedSimpArgs false
namespace Go.Proofs.Ytjbdiobnlmhidaa
open Go Go.RowKit

/-- block g is a set of literals of the reference; all of it is new since base -/
def ARep (base : Nat) (w : World) (g : Nat) (a : AS) : Prop :=
  ∃ b c T, w.heap[g]? = some (.cells #[.slice (some ⟨b, 0, none⟩) a.val.length c, .bool a.conf] T (0, 0)) ∧ base ≤ g ∧ b ≠ g ∧ base ≤ b ∧
    w.ownsRow base 3 1 (.slice (some ⟨b, 0, none⟩) a.val.length c) a.val.length (ints a.val) ∧ a.val.length ≤ c ∧ c ≤ maxLen

theorem ARep.drew {base : Nat} {w : World} {g : Nat} {a : AS} (h : ARep base w g a) : ARep base w.drew g a := h
theorem ARep.facts {base : Nat} {w : World} {g : Nat} {a : AS} (h : ARep base w g a) : ∃ b c, w.cell? ⟨g, 0, none⟩ = some (.slice (some ⟨b, 0, none⟩) a.val.length c) ∧ w.cell? ⟨g, 1, none⟩ = some (.bool a.conf) ∧
    (∀ i, w.frozen? ⟨g, i, none⟩ = false) ∧ base ≤ g ∧ base ≤ b ∧ b ≠ g ∧ a.val.length ≤ c ∧ c ≤ maxLen ∧ (∀ i, i < a.val.length → w.cell? ⟨b, i, none⟩ = some (.int .i64 (a.val.getD i 0)) ∧ w.frozen? ⟨b, i, none⟩ = false) ∧
    (∀ i x, i < a.val.length → ARep base (w.setCell ⟨b, i, none⟩ (.int .i64 x)) g ⟨a.val.set i x, a.conf⟩) ∧ (∀ x, ARep base (w.setCell ⟨g, 1, none⟩ (.bool x)) g ⟨a.val, x⟩) := by
  obtain ⟨b, c, T, h1, h2, h3, h4, h5, h6, h7⟩ := h
  refine ⟨b, c, ?_, ?_, fun i => by simp [World.frozen?, h1], h2, h4, h3, h6, h7, fun i hi => ?_, fun i x hi => ?_, fun x => ?_⟩
  · rw [cell_of_row w g 0 _ T (0, 0) h1]; rfl
  · rw [cell_of_row w g 1 _ T (0, 0) h1]; rfl
  · obtain ⟨x1, x2, -⟩ := ownsRow_cell h5 hi
    exact ⟨by rw [x1, ints_get hi], x2⟩
  · refine ⟨b, c, T, ?_, h2, h3, h4, ?_, by simpa using h6, h7⟩
    · rw [setCell_heap_other _ h3.symm, List.length_set]; exact h1
    · have := ownsRow_set h5 i (.int .i64 x)
      rw [ints_set] at this
      simpa using this
  · refine ⟨b, c, T, ?_, h2, h3, h4, ?_, h6, h7⟩
    · rw [setCell_heap_same _ h1]; rfl
    · exact ownsRow_of_block h5 fun b' hb' => setCell_heap_other _ (fun e => h3 (by simp [Value.ownBlock] at hb'; omega))
theorem ARep.kept {base : Nat} {w w' : World} {g : Nat} {a : AS} (h : ARep base w g a) (hb : Below w.heap.size w w') : ARep base w' g a := by
  obtain ⟨b, c, T, h1, h2, h3, h4, h5, h6, h7⟩ := h
  exact ⟨b, c, T, by rw [hb.block g (lt_of_heap h1)]; exact h1, h2, h3, h4, ownsRow_of_block h5 fun b' hb' => hb.block b' (ownsRow_lt h5 b' hb'), h6, h7⟩

set_option maxHeartbeats 4000000 in
theorem radd_calls {base : Nat} {w : World} {g : Nat} {a : AS} (h : ARep base w g a) (l : Int) (hl : l.natAbs < a.val.length) (hn : a.val.length ≤ 1000000000) (hr : -1 ≤ a.val.getD l.natAbs 0 ∧ a.val.getD l.natAbs 0 ≤ 1) :
    Calls Try.prog 55 #[.pointer (some ⟨g, 0, none⟩), .int .i64 l] w fun e w' => e = .returned (.tuple #[]) ∧ ARep base w' g (a.add l) ∧ Below base w w' := by
  obtain ⟨b, c, h0, h1, hf, hg, hbb, hbg, hc1, hc2, hcell, hset, hcon⟩ := h.facts
  unfold maxLen at hc2
  obtain ⟨xcell, xfz⟩ := hcell _ hl
  have fg := hf 1
  have H := Lib.hid h
  have hsz : g < w.heap.size := by obtain ⟨b, c, T, h1, -⟩ := h; exact lt_of_heap h1
  have hsgn : sg l = if l < 0 then -1 else 1 := rfl
  have HS := Lib.hid hset
  have HADD : Hid (a.add l = ⟨a.val.set l.natAbs (sg l), a.conf || (a.val.getD l.natAbs 0 == -(sg l))⟩) := rfl
  have HL := Lib.hid hl
  have HBG := Lib.hid (And.intro hg hbb)
  have HCON := Lib.hid hcon
  obtain ⟨hr1, hr2⟩ := hr
  generalize a.val.getD l.natAbs 0 = x at *
  clear h hcell hf hset hcon
  by_cases hs : l < 0
  case' pos =>
    rw [if_pos hs] at hsgn
    rw [hsgn] at HADD
    clear hsgn
    go_enter Try.func55, Try.ntmps55
    go_wp2_with fail
  case' neg =>
    rw [if_neg hs] at hsgn
    rw [hsgn] at HADD
    clear hsgn
    go_enter Try.func55, Try.ntmps55
    go_wp2_with fail
  case pos =>
    have e0 : w.drew.cell? ⟨g, 0, none⟩ = some (.slice (some ⟨b, 0, none⟩) a.val.length c) := h0
    have e1 : w.drew.cell? ⟨b, l.natAbs, none⟩ = some (.int .i64 x) := xcell
    by_cases hx : x = 1
    case' pos =>
      have bx : (x == IntKind.i64.wrap (1)) = true := by rw [show IntKind.i64.wrap (1) = 1 from by decide]; simp [hx]
      have HX := Lib.hid hx
      clear hx
      refine wp_region_seq (fun w' => w'.cell? ⟨g, 0, none⟩ = some (.slice (some ⟨b, 0, none⟩) a.val.length c) ∧ w'.cell? ⟨b, l.natAbs, none⟩ = some (.int .i64 x)) []
        [(0, 2), (1, 2), (2, 2), (3, 1), (4, 2), (8, 2), (9, 2), (5, 0), (6, 2), (7, 1), (10, 2)]
        (by kernel_rfl) (by kernel_rfl) (fun c a d v w h => by cases d <;> exact h) (by kernel_rfl) ⟨e0, e1⟩ ?_
      repeat
        first
          | refine wpSeqN_quiet (v := ?_) rfl (Or.inl ⟨rfl, ?_⟩) ?_
          | refine wpSeqN_pure (v := ?_) rfl (Or.inl ⟨rfl, ?_⟩) ?_
        rotate_left
        focus (intro w hSw; (try dsimp only at hSw); first | (go_simp; done) | (go_simp; with_reducible rfl))
        simp only [Act.put, List.setIfInBounds_toArray, List.set_cons_zero, List.set_cons_succ]
      refine wpSeqN_loud rfl (fun K hK => ?_)
      go_simp
      refine (size_calls l _ (by omega) (by omega)).mono ?_
      rintro e w' ⟨rfl, rfl⟩
      refine hK.out _ _ (fun _ => ⟨e0, e1⟩) ?_
      clear hK K
      try simp only [Act.put, List.setIfInBounds_toArray, List.set_cons_zero, List.set_cons_succ]
      repeat
        first
          | refine wpSeqN_quiet (v := ?_) rfl (Or.inl ⟨rfl, ?_⟩) ?_
          | refine wpSeqN_pure (v := ?_) rfl (Or.inl ⟨rfl, ?_⟩) ?_
        rotate_left
        focus (intro w hSw; (try dsimp only at hSw); first | (go_simp; done) | (go_simp; with_reducible rfl))
        simp only [Act.put, List.setIfInBounds_toArray, List.set_cons_zero, List.set_cons_succ]
      refine wpSeqN_nil ?_
      go_upto_region 5 with (fail)
      refine cutW (fun w1 => ARep base w1 g ⟨a.val, true⟩ ∧ Below base w w1) ⟨(HCON.out true).drew, (((Below.refl _ w).drew).setCell (p := ⟨g, 1, none⟩) HBG.out.1 _)⟩ ?_
    case' neg =>
      have bx : (x == IntKind.i64.wrap (1)) = false := by rw [show IntKind.i64.wrap (1) = 1 from by decide]; simp [hx]
      have HX := Lib.hid hx
      clear hx
      refine wp_region_seq (fun w' => w'.cell? ⟨g, 0, none⟩ = some (.slice (some ⟨b, 0, none⟩) a.val.length c) ∧ w'.cell? ⟨b, l.natAbs, none⟩ = some (.int .i64 x)) []
        [(0, 2), (1, 2), (2, 2), (3, 1), (4, 2), (8, 2), (9, 2), (5, 0), (6, 2), (7, 1), (10, 2)]
        (by kernel_rfl) (by kernel_rfl) (fun c a d v w h => by cases d <;> exact h) (by kernel_rfl) ⟨e0, e1⟩ ?_
      repeat
        first
          | refine wpSeqN_quiet (v := ?_) rfl (Or.inl ⟨rfl, ?_⟩) ?_
          | refine wpSeqN_pure (v := ?_) rfl (Or.inl ⟨rfl, ?_⟩) ?_
        rotate_left
        focus (intro w hSw; (try dsimp only at hSw); first | (go_simp; done) | (go_simp; with_reducible rfl))
        simp only [Act.put, List.setIfInBounds_toArray, List.set_cons_zero, List.set_cons_succ]
      refine wpSeqN_loud rfl (fun K hK => ?_)
      go_simp
      refine (size_calls l _ (by omega) (by omega)).mono ?_
      rintro e w' ⟨rfl, rfl⟩
      refine hK.out _ _ (fun _ => ⟨e0, e1⟩) ?_
      clear hK K
      try simp only [Act.put, List.setIfInBounds_toArray, List.set_cons_zero, List.set_cons_succ]
      repeat
        first
          | refine wpSeqN_quiet (v := ?_) rfl (Or.inl ⟨rfl, ?_⟩) ?_
          | refine wpSeqN_pure (v := ?_) rfl (Or.inl ⟨rfl, ?_⟩) ?_
        rotate_left
        focus (intro w hSw; (try dsimp only at hSw); first | (go_simp; done) | (go_simp; with_reducible rfl))
        simp only [Act.put, List.setIfInBounds_toArray, List.set_cons_zero, List.set_cons_succ]
      refine wpSeqN_nil ?_
      go_upto_region 5 with (fail)
      refine cutW (fun w1 => ARep base w1 g a ∧ Below base w w1) ⟨H.out.drew, ((Below.refl _ w).drew)⟩ ?_
    all_goals (
      rintro w1 ⟨q1, k1⟩
      clear h0 h1 fg hc1 hc2 e0 e1 xcell xfz HS H HCON HBG
      obtain ⟨b1, c1, h0, -, -, hg, hbb, hbg, hc1, hc2, hcell, hset, -⟩ := q1.facts
      try dsimp only at *
      obtain ⟨xcell, xfz⟩ := hcell _ HL.out
      have HQ := Lib.hid (hset l.natAbs (-1) HL.out)
      have HK := Lib.hid (k1.drew.setCell (p := ⟨b1, l.natAbs, none⟩) hbb (.int .i64 (-1)))
      unfold maxLen at hc2
      clear hset q1 hcell k1
      have e0 : w1.drew.cell? ⟨g, 0, none⟩ = some (.slice (some ⟨b1, 0, none⟩) a.val.length c1) := h0
      refine wp_region_seq (fun w' => w'.cell? ⟨g, 0, none⟩ = some (.slice (some ⟨b1, 0, none⟩) a.val.length c1)) [8]
        [(0, 2), (1, 2), (2, 2), (3, 1), (4, 2), (6, 2), (5, 0), (7, 2), (8, 0)]
        (by kernel_rfl) (by kernel_rfl) (fun c a d v w h => by cases d <;> exact h) (by kernel_rfl) e0 ?_
      repeat
        first
          | refine wpSeqN_quiet (v := ?_) rfl (Or.inl ⟨rfl, ?_⟩) ?_
          | refine wpSeqN_pure (v := ?_) rfl (Or.inl ⟨rfl, ?_⟩) ?_
        rotate_left
        focus (intro w hSw; (try dsimp only at hSw); first | (go_simp; done) | (go_simp; with_reducible rfl))
        simp only [Act.put, List.setIfInBounds_toArray, List.set_cons_zero, List.set_cons_succ]
      refine wpSeqN_loud rfl (fun K hK => ?_)
      go_simp
      refine (size_calls l _ (by omega) (by omega)).mono ?_
      rintro e w' ⟨rfl, rfl⟩
      refine hK.out _ _ (fun _ => e0) ?_
      clear hK K
      try simp only [Act.put, List.setIfInBounds_toArray, List.set_cons_zero, List.set_cons_succ]
      repeat
        first
          | refine wpSeqN_quiet (v := ?_) rfl (Or.inl ⟨rfl, ?_⟩) ?_
          | refine wpSeqN_pure (v := ?_) rfl (Or.inl ⟨rfl, ?_⟩) ?_
        rotate_left
        focus (intro w hSw; (try dsimp only at hSw); first | (go_simp; done) | (go_simp; with_reducible rfl))
        simp only [Act.put, List.setIfInBounds_toArray, List.set_cons_zero, List.set_cons_succ]
      refine wpSeqN_loud rfl (fun K hK => ?_)
      go_simp
      refine hK.out _ _ (fun h => absurd h (by decide)) ?_
      clear hK K
      try simp only [Act.put, List.setIfInBounds_toArray, List.set_cons_zero, List.set_cons_succ]
      refine wpSeqN_nil ?_
      go_wp2
      go_end0
      refine ⟨rfl, ?_, HK.out⟩
      rw [HADD.out]
      first
        | (rw [show (x == -(-1)) = true from by rw [HX.out]; rfl, Bool.or_true]; exact HQ.out)
        | (rw [show (x == -(-1)) = false from by simp only [beq_eq_false_iff_ne]; exact HX.out, Bool.or_false]; exact HQ.out))
  case neg =>
    have e0 : w.drew.cell? ⟨g, 0, none⟩ = some (.slice (some ⟨b, 0, none⟩) a.val.length c) := h0
    have e1 : w.drew.cell? ⟨b, l.natAbs, none⟩ = some (.int .i64 x) := xcell
    by_cases hx : x = -1
    case' pos =>
      have bx : (x == IntKind.i64.wrap (-1)) = true := by rw [show IntKind.i64.wrap (-1) = -1 from by decide]; simp [hx]
      have HX := Lib.hid hx
      clear hx
      refine wp_region_seq (fun w' => w'.cell? ⟨g, 0, none⟩ = some (.slice (some ⟨b, 0, none⟩) a.val.length c) ∧ w'.cell? ⟨b, l.natAbs, none⟩ = some (.int .i64 x)) []
        [(0, 2), (1, 2), (2, 2), (3, 1), (4, 2), (8, 2), (9, 2), (5, 0), (6, 2), (7, 1), (10, 2)]
        (by kernel_rfl) (by kernel_rfl) (fun c a d v w h => by cases d <;> exact h) (by kernel_rfl) ⟨e0, e1⟩ ?_
      repeat
        first
          | refine wpSeqN_quiet (v := ?_) rfl (Or.inl ⟨rfl, ?_⟩) ?_
          | refine wpSeqN_pure (v := ?_) rfl (Or.inl ⟨rfl, ?_⟩) ?_
        rotate_left
        focus (intro w hSw; (try dsimp only at hSw); first | (go_simp; done) | (go_simp; with_reducible rfl))
        simp only [Act.put, List.setIfInBounds_toArray, List.set_cons_zero, List.set_cons_succ]
      refine wpSeqN_loud rfl (fun K hK => ?_)
      go_simp
      refine (size_calls l _ (by omega) (by omega)).mono ?_
      rintro e w' ⟨rfl, rfl⟩
      refine hK.out _ _ (fun _ => ⟨e0, e1⟩) ?_
      clear hK K
      try simp only [Act.put, List.setIfInBounds_toArray, List.set_cons_zero, List.set_cons_succ]
      repeat
        first
          | refine wpSeqN_quiet (v := ?_) rfl (Or.inl ⟨rfl, ?_⟩) ?_
          | refine wpSeqN_pure (v := ?_) rfl (Or.inl ⟨rfl, ?_⟩) ?_
        rotate_left
        focus (intro w hSw; (try dsimp only at hSw); first | (go_simp; done) | (go_simp; with_reducible rfl))
        simp only [Act.put, List.setIfInBounds_toArray, List.set_cons_zero, List.set_cons_succ]
      refine wpSeqN_nil ?_
      go_upto_region 5 with (fail)
      refine cutW (fun w1 => ARep base w1 g ⟨a.val, true⟩ ∧ Below base w w1) ⟨(HCON.out true).drew, (((Below.refl _ w).drew).setCell (p := ⟨g, 1, none⟩) HBG.out.1 _)⟩ ?_
    case' neg =>
      have bx : (x == IntKind.i64.wrap (-1)) = false := by rw [show IntKind.i64.wrap (-1) = -1 from by decide]; simp [hx]
      have HX := Lib.hid hx
      clear hx
      refine wp_region_seq (fun w' => w'.cell? ⟨g, 0, none⟩ = some (.slice (some ⟨b, 0, none⟩) a.val.length c) ∧ w'.cell? ⟨b, l.natAbs, none⟩ = some (.int .i64 x)) []
        [(0, 2), (1, 2), (2, 2), (3, 1), (4, 2), (8, 2), (9, 2), (5, 0), (6, 2), (7, 1), (10, 2)]
        (by kernel_rfl) (by kernel_rfl) (fun c a d v w h => by cases d <;> exact h) (by kernel_rfl) ⟨e0, e1⟩ ?_
      repeat
        first
          | refine wpSeqN_quiet (v := ?_) rfl (Or.inl ⟨rfl, ?_⟩) ?_
          | refine wpSeqN_pure (v := ?_) rfl (Or.inl ⟨rfl, ?_⟩) ?_
        rotate_left
        focus (intro w hSw; (try dsimp only at hSw); first | (go_simp; done) | (go_simp; with_reducible rfl))
        simp only [Act.put, List.setIfInBounds_toArray, List.set_cons_zero, List.set_cons_succ]
      refine wpSeqN_loud rfl (fun K hK => ?_)
      go_simp
      refine (size_calls l _ (by omega) (by omega)).mono ?_
      rintro e w' ⟨rfl, rfl⟩
      refine hK.out _ _ (fun _ => ⟨e0, e1⟩) ?_
      clear hK K
      try simp only [Act.put, List.setIfInBounds_toArray, List.set_cons_zero, List.set_cons_succ]
      repeat
        first
          | refine wpSeqN_quiet (v := ?_) rfl (Or.inl ⟨rfl, ?_⟩) ?_
          | refine wpSeqN_pure (v := ?_) rfl (Or.inl ⟨rfl, ?_⟩) ?_
        rotate_left
        focus (intro w hSw; (try dsimp only at hSw); first | (go_simp; done) | (go_simp; with_reducible rfl))
        simp only [Act.put, List.setIfInBounds_toArray, List.set_cons_zero, List.set_cons_succ]
      refine wpSeqN_nil ?_
      go_upto_region 5 with (fail)
      refine cutW (fun w1 => ARep base w1 g a ∧ Below base w w1) ⟨H.out.drew, ((Below.refl _ w).drew)⟩ ?_
    all_goals (
      rintro w1 ⟨q1, k1⟩
      clear h0 h1 fg hc1 hc2 e0 e1 xcell xfz HS H HCON HBG
      obtain ⟨b1, c1, h0, -, -, hg, hbb, hbg, hc1, hc2, hcell, hset, -⟩ := q1.facts
      try dsimp only at *
      obtain ⟨xcell, xfz⟩ := hcell _ HL.out
      have HQ := Lib.hid (hset l.natAbs (1) HL.out)
      have HK := Lib.hid (k1.drew.setCell (p := ⟨b1, l.natAbs, none⟩) hbb (.int .i64 (1)))
      unfold maxLen at hc2
      clear hset q1 hcell k1
      have e0 : w1.drew.cell? ⟨g, 0, none⟩ = some (.slice (some ⟨b1, 0, none⟩) a.val.length c1) := h0
      refine wp_region_seq (fun w' => w'.cell? ⟨g, 0, none⟩ = some (.slice (some ⟨b1, 0, none⟩) a.val.length c1)) [8]
        [(0, 2), (1, 2), (2, 2), (3, 1), (4, 2), (6, 2), (5, 0), (7, 2), (8, 0)]
        (by kernel_rfl) (by kernel_rfl) (fun c a d v w h => by cases d <;> exact h) (by kernel_rfl) e0 ?_
      repeat
        first
          | refine wpSeqN_quiet (v := ?_) rfl (Or.inl ⟨rfl, ?_⟩) ?_
          | refine wpSeqN_pure (v := ?_) rfl (Or.inl ⟨rfl, ?_⟩) ?_
        rotate_left
        focus (intro w hSw; (try dsimp only at hSw); first | (go_simp; done) | (go_simp; with_reducible rfl))
        simp only [Act.put, List.setIfInBounds_toArray, List.set_cons_zero, List.set_cons_succ]
      refine wpSeqN_loud rfl (fun K hK => ?_)
      go_simp
      refine (size_calls l _ (by omega) (by omega)).mono ?_
      rintro e w' ⟨rfl, rfl⟩
      refine hK.out _ _ (fun _ => e0) ?_
      clear hK K
      try simp only [Act.put, List.setIfInBounds_toArray, List.set_cons_zero, List.set_cons_succ]
      repeat
        first
          | refine wpSeqN_quiet (v := ?_) rfl (Or.inl ⟨rfl, ?_⟩) ?_
          | refine wpSeqN_pure (v := ?_) rfl (Or.inl ⟨rfl, ?_⟩) ?_
        rotate_left
        focus (intro w hSw; (try dsimp only at hSw); first | (go_simp; done) | (go_simp; with_reducible rfl))
        simp only [Act.put, List.setIfInBounds_toArray, List.set_cons_zero, List.set_cons_succ]
      refine wpSeqN_loud rfl (fun K hK => ?_)
      go_simp
      refine hK.out _ _ (fun h => absurd h (by decide)) ?_
      clear hK K
      try simp only [Act.put, List.setIfInBounds_toArray, List.set_cons_zero, List.set_cons_succ]
      refine wpSeqN_nil ?_
      go_wp2
      go_end0
      refine ⟨rfl, ?_, HK.out⟩
      rw [HADD.out]
      first
        | (rw [show (x == -(1)) = true from by rw [HX.out]; rfl, Bool.or_true]; exact HQ.out)
        | (rw [show (x == -(1)) = false from by simp only [beq_eq_false_iff_ne]; exact HX.out, Bool.or_false]; exact HQ.out))
end Go.Proofs.Ytjbdiobnlmhidaa
namespace Go.Proofs.Ytjbdiobnlmhidaa
open Go Go.RowKit

theorem go_cons (a : AS) (l : Int) (r : List Int) (o : Int) : a.go (l :: r) o =
    if (a.val.getD l.natAbs 0 = 0 ∧ o ≠ 0 ∧ o ≠ l) ∨ (a.val.getD l.natAbs 0 ≠ 0 ∧ (0 < a.val.getD l.natAbs 0 ↔ 0 < l)) then none
    else AS.go a r (if a.val.getD l.natAbs 0 = 0 then l else o) := rfl
theorem unit_none {a : AS} {c : List Int} (h : a.go c 0 = none) : a.unit c = (a, 0) := by unfold AS.unit; rw [h]
theorem unit_zero {a : AS} {c : List Int} (h : a.go c 0 = some 0) : a.unit c = (⟨a.val, true⟩, 0) := by unfold AS.unit; rw [h]; rfl
theorem unit_some {a : AS} {c : List Int} {o : Int} (h : a.go c 0 = some o) (h0 : o ≠ 0) : a.unit c = (a, o) := by unfold AS.unit; rw [h]; simp [h0]

set_option maxHeartbeats 8000000 in
theorem runit_calls {base : Nat} {w : World} {g : Nat} {a : AS} (h : ARep base w g a) {B : Nat → Prop} {v : Value} {c : List Int} (h2 : RdS w B v (ints c)) (hl : ∀ l, l ∈ c → l ≠ 0 ∧ l.natAbs < a.val.length) (hn : a.val.length ≤ 1000000000) (hr : ∀ i, -1 ≤ a.val.getD i 0 ∧ a.val.getD i 0 ≤ 1) :
    Calls Try.prog 56 #[.pointer (some ⟨g, 0, none⟩), v] w fun e w' => e = .returned (.int .i64 (a.unit c).2) ∧ ARep base w' g (a.unit c).1 ∧ Below base w w' := by
  obtain ⟨ca, cc, rfl, h1, hc⟩ := h2.form
  rw [ints_length] at *
  unfold maxLen at hc
  have H := Lib.hid h
  have H2 := Lib.hid h2
  have HL := Lib.hid hl
  have HR := Lib.hid hr
  clear h h2 hl hr
  go_enter Try.func56, Try.ntmps56
  go_wp2_with fail
  go_loopg [5, 6] c.length (fun kq v5 v6 w' => ∃ (i : Nat) (o : Int), v5 = .int .i64 o ∧ v6 = .int .i64 i ∧ i + kq = c.length ∧ Hid (a.go (c.drop i) o = a.go c 0) ∧ Hid (Same w w'))
  case atStart => exact ⟨0, 0, rfl, rfl, by omega, rfl, Same.refl _⟩
  case round =>
    obtain ⟨i, o, rfl, rfl, hi, HG, HS⟩ := hrel
    by_cases hlt : i < c.length
    · obtain ⟨gb, go, rfl, kcell, -, -⟩ := (H2.out.below (HS.out.below _)).at hlt
      obtain ⟨hl0, hll⟩ := HL.out _ (getD_mem (d := 0) hlt)
      have hst := HG.out
      rw [drop_cons 0 hlt, go_cons] at hst
      generalize c.getD i 0 = l at *
      have q1 := H.out.kept (HS.out.below _)
      obtain ⟨b, c1, h0, -, hf, hg, hbb, hbg, hc1, hc2, hcell, -, -⟩ := q1.facts
      obtain ⟨xcell, -⟩ := hcell _ hll
      obtain ⟨hr1, hr2⟩ := HR.out l.natAbs
      generalize a.val.getD l.natAbs 0 = x at *
      unfold maxLen at hc2
      have HST := Lib.hid hst
      have HS2 := Lib.hid HS.out.drew
      clear HG hst hcell hf q1
      have e0 : wr.drew.cell? ⟨g, 0, none⟩ = some (.slice (some ⟨b, 0, none⟩) a.val.length c1) := h0
      have e1 : wr.drew.cell? ⟨b, l.natAbs, none⟩ = some (.int .i64 x) := xcell
      have hxx : x = 0 ∨ x = 1 ∨ x = -1 := by omega
      clear hr1 hr2
      rcases hxx with rfl | rfl | rfl
      · by_cases ho : o = 0
        · subst ho
          have HGN : Hid (a.go (c.drop (i + 1)) l = a.go c 0) := by
            show _ = _
            rw [← HST.out, if_neg, if_pos rfl]
            simp
          have b1 : ((0 : Int) != 0) = false := rfl
          have hlA : (-1000000000000000 : Int) ≤ l ∧ l ≤ 1000000000000000 := by omega
          go_wp2_with fail
          refine wp_region_seq (fun w' => w'.cell? ⟨g, 0, none⟩ = some (.slice (some ⟨b, 0, none⟩) a.val.length c1) ∧ w'.cell? ⟨b, l.natAbs, none⟩ = some (.int .i64 (0))) [8]
            [(0, 2), (1, 2), (2, 2), (3, 1), (4, 2), (5, 0), (6, 2), (7, 1), (8, 0)]
            (by kernel_rfl) (by kernel_rfl) (fun c a d v w h => by cases d <;> exact h) (by kernel_rfl) ⟨e0, e1⟩ ?_
          repeat
            first
              | refine wpSeqN_quiet (v := ?_) rfl (Or.inl ⟨rfl, ?_⟩) ?_
              | refine wpSeqN_pure (v := ?_) rfl (Or.inl ⟨rfl, ?_⟩) ?_
            rotate_left
            focus (intro w hSw; (try dsimp only at hSw); first | (go_simp; done) | (go_simp; with_reducible rfl))
            simp only [Act.put, List.setIfInBounds_toArray, List.set_cons_zero, List.set_cons_succ]
          refine wpSeqN_loud rfl (fun K hK => ?_)
          go_simp
          refine (size_calls l _ hlA.1 hlA.2).mono ?_
          rintro e w' ⟨rfl, rfl⟩
          refine hK.out _ _ (fun _ => ⟨e0, e1⟩) ?_
          clear hK K
          try simp only [Act.put, List.setIfInBounds_toArray, List.set_cons_zero, List.set_cons_succ]
          repeat
            first
              | refine wpSeqN_quiet (v := ?_) rfl (Or.inl ⟨rfl, ?_⟩) ?_
              | refine wpSeqN_pure (v := ?_) rfl (Or.inl ⟨rfl, ?_⟩) ?_
            rotate_left
            focus (intro w hSw; (try dsimp only at hSw); first | (go_simp; done) | (go_simp; with_reducible rfl))
            simp only [Act.put, List.setIfInBounds_toArray, List.set_cons_zero, List.set_cons_succ]
          refine wpSeqN_loud rfl (fun K hK => ?_)
          go_simp
          refine hK.out _ _ (fun h => absurd h (by decide)) ?_
          clear hK K
          try simp only [Act.put, List.setIfInBounds_toArray, List.set_cons_zero, List.set_cons_succ]
          refine wpSeqN_nil ?_
          go_wp2
          go_roundg (gk - 1)
          case measure => omega
          case rel => exact ⟨i + 1, l, rfl, by go_num, by omega, HGN, HS2⟩
        · by_cases hol : o = l
          · subst hol
            have HGN : Hid (a.go (c.drop (i + 1)) o = a.go c 0) := by
              show _ = _
              rw [← HST.out, if_neg, if_pos rfl]
              simp
            have b1 : (o != 0) = true := by simp [hl0]
            have b2 : (o != o) = false := by simp
            have hlA : (-1000000000000000 : Int) ≤ o ∧ o ≤ 1000000000000000 := by omega
            go_wp2_with fail
            refine wp_region_seq (fun w' => w'.cell? ⟨g, 0, none⟩ = some (.slice (some ⟨b, 0, none⟩) a.val.length c1) ∧ w'.cell? ⟨b, o.natAbs, none⟩ = some (.int .i64 (0))) [8]
              [(0, 2), (1, 2), (2, 2), (3, 1), (4, 2), (5, 0), (6, 2), (7, 1), (8, 0)]
              (by kernel_rfl) (by kernel_rfl) (fun c a d v w h => by cases d <;> exact h) (by kernel_rfl) ⟨e0, e1⟩ ?_
            repeat
              first
                | refine wpSeqN_quiet (v := ?_) rfl (Or.inl ⟨rfl, ?_⟩) ?_
                | refine wpSeqN_pure (v := ?_) rfl (Or.inl ⟨rfl, ?_⟩) ?_
              rotate_left
              focus (intro w hSw; (try dsimp only at hSw); first | (go_simp; done) | (go_simp; with_reducible rfl))
              simp only [Act.put, List.setIfInBounds_toArray, List.set_cons_zero, List.set_cons_succ]
            refine wpSeqN_loud rfl (fun K hK => ?_)
            go_simp
            refine (size_calls o _ hlA.1 hlA.2).mono ?_
            rintro e w' ⟨rfl, rfl⟩
            refine hK.out _ _ (fun _ => ⟨e0, e1⟩) ?_
            clear hK K
            try simp only [Act.put, List.setIfInBounds_toArray, List.set_cons_zero, List.set_cons_succ]
            repeat
              first
                | refine wpSeqN_quiet (v := ?_) rfl (Or.inl ⟨rfl, ?_⟩) ?_
                | refine wpSeqN_pure (v := ?_) rfl (Or.inl ⟨rfl, ?_⟩) ?_
              rotate_left
              focus (intro w hSw; (try dsimp only at hSw); first | (go_simp; done) | (go_simp; with_reducible rfl))
              simp only [Act.put, List.setIfInBounds_toArray, List.set_cons_zero, List.set_cons_succ]
            refine wpSeqN_loud rfl (fun K hK => ?_)
            go_simp
            refine hK.out _ _ (fun h => absurd h (by decide)) ?_
            clear hK K
            try simp only [Act.put, List.setIfInBounds_toArray, List.set_cons_zero, List.set_cons_succ]
            refine wpSeqN_nil ?_
            go_wp2
            go_roundg (gk - 1)
            case measure => omega
            case rel => exact ⟨i + 1, o, rfl, by go_num, by omega, HGN, HS2⟩
          · 
            have HGN : Hid (a.go c 0 = none) := by
              show _ = _
              rw [← HST.out, if_pos]
              simp [ho, hol]
            have b1 : (o != 0) = true := by simp [ho]
            have b2 : (o != l) = true := by simp [hol]
            have hlA : (-1000000000000000 : Int) ≤ l ∧ l ≤ 1000000000000000 := by omega
            go_wp2_with fail
            refine wp_region_seq (fun w' => w'.cell? ⟨g, 0, none⟩ = some (.slice (some ⟨b, 0, none⟩) a.val.length c1) ∧ w'.cell? ⟨b, l.natAbs, none⟩ = some (.int .i64 (0))) [8]
              [(0, 2), (1, 2), (2, 2), (3, 1), (4, 2), (5, 0), (6, 2), (7, 1), (8, 0)]
              (by kernel_rfl) (by kernel_rfl) (fun c a d v w h => by cases d <;> exact h) (by kernel_rfl) ⟨e0, e1⟩ ?_
            repeat
              first
                | refine wpSeqN_quiet (v := ?_) rfl (Or.inl ⟨rfl, ?_⟩) ?_
                | refine wpSeqN_pure (v := ?_) rfl (Or.inl ⟨rfl, ?_⟩) ?_
              rotate_left
              focus (intro w hSw; (try dsimp only at hSw); first | (go_simp; done) | (go_simp; with_reducible rfl))
              simp only [Act.put, List.setIfInBounds_toArray, List.set_cons_zero, List.set_cons_succ]
            refine wpSeqN_loud rfl (fun K hK => ?_)
            go_simp
            refine (size_calls l _ hlA.1 hlA.2).mono ?_
            rintro e w' ⟨rfl, rfl⟩
            refine hK.out _ _ (fun _ => ⟨e0, e1⟩) ?_
            clear hK K
            try simp only [Act.put, List.setIfInBounds_toArray, List.set_cons_zero, List.set_cons_succ]
            repeat
              first
                | refine wpSeqN_quiet (v := ?_) rfl (Or.inl ⟨rfl, ?_⟩) ?_
                | refine wpSeqN_pure (v := ?_) rfl (Or.inl ⟨rfl, ?_⟩) ?_
              rotate_left
              focus (intro w hSw; (try dsimp only at hSw); first | (go_simp; done) | (go_simp; with_reducible rfl))
              simp only [Act.put, List.setIfInBounds_toArray, List.set_cons_zero, List.set_cons_succ]
            refine wpSeqN_loud rfl (fun K hK => ?_)
            go_simp
            refine hK.out _ _ (fun h => absurd h (by decide)) ?_
            clear hK K
            try simp only [Act.put, List.setIfInBounds_toArray, List.set_cons_zero, List.set_cons_succ]
            refine wpSeqN_nil ?_
            go_wp2
            go_ret
            have e : a.go c 0 = none := HGN.out
            rw [unit_none e]
            exact ⟨rfl, H.out.kept (HS2.out.below _), HS2.out.below _⟩
      · by_cases hp : 0 < l
        ·
          have HGN : Hid (a.go c 0 = none) := by
            show _ = _
            rw [← HST.out, if_pos]
            omega
          have b3 : decide (0 < l) = true := by simp [hp]
          have b4 : (decide (0 < (1 : Int)) == decide (0 < l)) = true := by rw [b3]; decide
          have hlA : (-1000000000000000 : Int) ≤ l ∧ l ≤ 1000000000000000 := by omega
          go_wp2_with fail
          refine wp_region_seq (fun w' => w'.cell? ⟨g, 0, none⟩ = some (.slice (some ⟨b, 0, none⟩) a.val.length c1) ∧ w'.cell? ⟨b, l.natAbs, none⟩ = some (.int .i64 (1))) [8]
            [(0, 2), (1, 2), (2, 2), (3, 1), (4, 2), (5, 0), (6, 2), (7, 1), (8, 0)]
            (by kernel_rfl) (by kernel_rfl) (fun c a d v w h => by cases d <;> exact h) (by kernel_rfl) ⟨e0, e1⟩ ?_
          repeat
            first
              | refine wpSeqN_quiet (v := ?_) rfl (Or.inl ⟨rfl, ?_⟩) ?_
              | refine wpSeqN_pure (v := ?_) rfl (Or.inl ⟨rfl, ?_⟩) ?_
            rotate_left
            focus (intro w hSw; (try dsimp only at hSw); first | (go_simp; done) | (go_simp; with_reducible rfl))
            simp only [Act.put, List.setIfInBounds_toArray, List.set_cons_zero, List.set_cons_succ]
          refine wpSeqN_loud rfl (fun K hK => ?_)
          go_simp
          refine (size_calls l _ hlA.1 hlA.2).mono ?_
          rintro e w' ⟨rfl, rfl⟩
          refine hK.out _ _ (fun _ => ⟨e0, e1⟩) ?_
          clear hK K
          try simp only [Act.put, List.setIfInBounds_toArray, List.set_cons_zero, List.set_cons_succ]
          repeat
            first
              | refine wpSeqN_quiet (v := ?_) rfl (Or.inl ⟨rfl, ?_⟩) ?_
              | refine wpSeqN_pure (v := ?_) rfl (Or.inl ⟨rfl, ?_⟩) ?_
            rotate_left
            focus (intro w hSw; (try dsimp only at hSw); first | (go_simp; done) | (go_simp; with_reducible rfl))
            simp only [Act.put, List.setIfInBounds_toArray, List.set_cons_zero, List.set_cons_succ]
          refine wpSeqN_loud rfl (fun K hK => ?_)
          go_simp
          refine hK.out _ _ (fun h => absurd h (by decide)) ?_
          clear hK K
          try simp only [Act.put, List.setIfInBounds_toArray, List.set_cons_zero, List.set_cons_succ]
          refine wpSeqN_nil ?_
          go_wp2
          go_ret
          have e : a.go c 0 = none := HGN.out
          rw [unit_none e]
          exact ⟨rfl, H.out.kept (HS2.out.below _), HS2.out.below _⟩
        ·
          have HGN : Hid (a.go (c.drop (i + 1)) o = a.go c 0) := by
            show _ = _
            rw [← HST.out, if_neg, if_neg (by omega)]
            omega
          have b3 : decide (0 < l) = false := by simp [hp]
          have b4 : (decide (0 < (1 : Int)) == decide (0 < l)) = false := by rw [b3]; decide
          have hp2 : l ≤ 0 := by omega
          have hlA : (-1000000000000000 : Int) ≤ l ∧ l ≤ 1000000000000000 := by omega
          go_wp2_with fail
          refine wp_region_seq (fun w' => w'.cell? ⟨g, 0, none⟩ = some (.slice (some ⟨b, 0, none⟩) a.val.length c1) ∧ w'.cell? ⟨b, l.natAbs, none⟩ = some (.int .i64 (1))) [8]
            [(0, 2), (1, 2), (2, 2), (3, 1), (4, 2), (5, 0), (6, 2), (7, 1), (8, 0)]
            (by kernel_rfl) (by kernel_rfl) (fun c a d v w h => by cases d <;> exact h) (by kernel_rfl) ⟨e0, e1⟩ ?_
          repeat
            first
              | refine wpSeqN_quiet (v := ?_) rfl (Or.inl ⟨rfl, ?_⟩) ?_
              | refine wpSeqN_pure (v := ?_) rfl (Or.inl ⟨rfl, ?_⟩) ?_
            rotate_left
            focus (intro w hSw; (try dsimp only at hSw); first | (go_simp; done) | (go_simp; with_reducible rfl))
            simp only [Act.put, List.setIfInBounds_toArray, List.set_cons_zero, List.set_cons_succ]
          refine wpSeqN_loud rfl (fun K hK => ?_)
          go_simp
          refine (size_calls l _ hlA.1 hlA.2).mono ?_
          rintro e w' ⟨rfl, rfl⟩
          refine hK.out _ _ (fun _ => ⟨e0, e1⟩) ?_
          clear hK K
          try simp only [Act.put, List.setIfInBounds_toArray, List.set_cons_zero, List.set_cons_succ]
          repeat
            first
              | refine wpSeqN_quiet (v := ?_) rfl (Or.inl ⟨rfl, ?_⟩) ?_
              | refine wpSeqN_pure (v := ?_) rfl (Or.inl ⟨rfl, ?_⟩) ?_
            rotate_left
            focus (intro w hSw; (try dsimp only at hSw); first | (go_simp; done) | (go_simp; with_reducible rfl))
            simp only [Act.put, List.setIfInBounds_toArray, List.set_cons_zero, List.set_cons_succ]
          refine wpSeqN_loud rfl (fun K hK => ?_)
          go_simp
          refine hK.out _ _ (fun h => absurd h (by decide)) ?_
          clear hK K
          try simp only [Act.put, List.setIfInBounds_toArray, List.set_cons_zero, List.set_cons_succ]
          refine wpSeqN_nil ?_
          go_wp2
          go_roundg (gk - 1)
          case measure => omega
          case rel => exact ⟨i + 1, o, rfl, by go_num, by omega, HGN, HS2⟩
      · by_cases hp : 0 < l
        ·
          have HGN : Hid (a.go (c.drop (i + 1)) o = a.go c 0) := by
            show _ = _
            rw [← HST.out, if_neg, if_neg (by omega)]
            omega
          have b3 : decide (0 < l) = true := by simp [hp]
          have b4 : (decide (0 < (-1 : Int)) == decide (0 < l)) = false := by rw [b3]; decide
          have hlA : (-1000000000000000 : Int) ≤ l ∧ l ≤ 1000000000000000 := by omega
          go_wp2_with fail
          refine wp_region_seq (fun w' => w'.cell? ⟨g, 0, none⟩ = some (.slice (some ⟨b, 0, none⟩) a.val.length c1) ∧ w'.cell? ⟨b, l.natAbs, none⟩ = some (.int .i64 (-1))) [8]
            [(0, 2), (1, 2), (2, 2), (3, 1), (4, 2), (5, 0), (6, 2), (7, 1), (8, 0)]
            (by kernel_rfl) (by kernel_rfl) (fun c a d v w h => by cases d <;> exact h) (by kernel_rfl) ⟨e0, e1⟩ ?_
          repeat
            first
              | refine wpSeqN_quiet (v := ?_) rfl (Or.inl ⟨rfl, ?_⟩) ?_
              | refine wpSeqN_pure (v := ?_) rfl (Or.inl ⟨rfl, ?_⟩) ?_
            rotate_left
            focus (intro w hSw; (try dsimp only at hSw); first | (go_simp; done) | (go_simp; with_reducible rfl))
            simp only [Act.put, List.setIfInBounds_toArray, List.set_cons_zero, List.set_cons_succ]
          refine wpSeqN_loud rfl (fun K hK => ?_)
          go_simp
          refine (size_calls l _ hlA.1 hlA.2).mono ?_
          rintro e w' ⟨rfl, rfl⟩
          refine hK.out _ _ (fun _ => ⟨e0, e1⟩) ?_
          clear hK K
          try simp only [Act.put, List.setIfInBounds_toArray, List.set_cons_zero, List.set_cons_succ]
          repeat
            first
              | refine wpSeqN_quiet (v := ?_) rfl (Or.inl ⟨rfl, ?_⟩) ?_
              | refine wpSeqN_pure (v := ?_) rfl (Or.inl ⟨rfl, ?_⟩) ?_
            rotate_left
            focus (intro w hSw; (try dsimp only at hSw); first | (go_simp; done) | (go_simp; with_reducible rfl))
            simp only [Act.put, List.setIfInBounds_toArray, List.set_cons_zero, List.set_cons_succ]
          refine wpSeqN_loud rfl (fun K hK => ?_)
          go_simp
          refine hK.out _ _ (fun h => absurd h (by decide)) ?_
          clear hK K
          try simp only [Act.put, List.setIfInBounds_toArray, List.set_cons_zero, List.set_cons_succ]
          refine wpSeqN_nil ?_
          go_wp2
          go_roundg (gk - 1)
          case measure => omega
          case rel => exact ⟨i + 1, o, rfl, by go_num, by omega, HGN, HS2⟩
        ·
          have HGN : Hid (a.go c 0 = none) := by
            show _ = _
            rw [← HST.out, if_pos]
            omega
          have b3 : decide (0 < l) = false := by simp [hp]
          have b4 : (decide (0 < (-1 : Int)) == decide (0 < l)) = true := by rw [b3]; decide
          have hp2 : l ≤ 0 := by omega
          have hlA : (-1000000000000000 : Int) ≤ l ∧ l ≤ 1000000000000000 := by omega
          go_wp2_with fail
          refine wp_region_seq (fun w' => w'.cell? ⟨g, 0, none⟩ = some (.slice (some ⟨b, 0, none⟩) a.val.length c1) ∧ w'.cell? ⟨b, l.natAbs, none⟩ = some (.int .i64 (-1))) [8]
            [(0, 2), (1, 2), (2, 2), (3, 1), (4, 2), (5, 0), (6, 2), (7, 1), (8, 0)]
            (by kernel_rfl) (by kernel_rfl) (fun c a d v w h => by cases d <;> exact h) (by kernel_rfl) ⟨e0, e1⟩ ?_
          repeat
            first
              | refine wpSeqN_quiet (v := ?_) rfl (Or.inl ⟨rfl, ?_⟩) ?_
              | refine wpSeqN_pure (v := ?_) rfl (Or.inl ⟨rfl, ?_⟩) ?_
            rotate_left
            focus (intro w hSw; (try dsimp only at hSw); first | (go_simp; done) | (go_simp; with_reducible rfl))
            simp only [Act.put, List.setIfInBounds_toArray, List.set_cons_zero, List.set_cons_succ]
          refine wpSeqN_loud rfl (fun K hK => ?_)
          go_simp
          refine (size_calls l _ hlA.1 hlA.2).mono ?_
          rintro e w' ⟨rfl, rfl⟩
          refine hK.out _ _ (fun _ => ⟨e0, e1⟩) ?_
          clear hK K
          try simp only [Act.put, List.setIfInBounds_toArray, List.set_cons_zero, List.set_cons_succ]
          repeat
            first
              | refine wpSeqN_quiet (v := ?_) rfl (Or.inl ⟨rfl, ?_⟩) ?_
              | refine wpSeqN_pure (v := ?_) rfl (Or.inl ⟨rfl, ?_⟩) ?_
            rotate_left
            focus (intro w hSw; (try dsimp only at hSw); first | (go_simp; done) | (go_simp; with_reducible rfl))
            simp only [Act.put, List.setIfInBounds_toArray, List.set_cons_zero, List.set_cons_succ]
          refine wpSeqN_loud rfl (fun K hK => ?_)
          go_simp
          refine hK.out _ _ (fun h => absurd h (by decide)) ?_
          clear hK K
          try simp only [Act.put, List.setIfInBounds_toArray, List.set_cons_zero, List.set_cons_succ]
          refine wpSeqN_nil ?_
          go_wp2
          go_ret
          have e : a.go c 0 = none := HGN.out
          rw [unit_none e]
          exact ⟨rfl, H.out.kept (HS2.out.below _), HS2.out.below _⟩
    · obtain rfl : i = c.length := by omega
      have hgo : a.go c 0 = some o := by rw [← HG.out, List.drop_length]; rfl
      have HGO := Lib.hid hgo
      have q1 := H.out.kept (HS.out.below _)
      obtain ⟨b, c1, h0, h1', hf, hg, -, -, -, -, -, -, hset⟩ := q1.facts
      have f1 := hf 1
      have HSET := Lib.hid (hset true)
      have HQ := Lib.hid q1
      have HBG := Lib.hid hg
      clear hgo q1 hf hset HG hg
      by_cases ho : o = 0
      · subst ho
        go_wp2
        go_ret
        rw [unit_zero HGO.out]
        exact ⟨rfl, HSET.out, (HS.out.below _).setCell (p := ⟨g, 1, none⟩) HBG.out _⟩
      · have bo : (o == 0) = false := by simp [ho]
        go_wp2
        go_ret
        rw [unit_some HGO.out ho]
        exact ⟨rfl, HQ.out, HS.out.below _⟩
end Go.Proofs.Ytjbdiobnlmhidaa
namespace Go.Proofs.Ytjbdiobnlmhidaa
open Go Go.RowKit

/-- what the reference's propagation ends with -/
structure PFin (n : Nat) (S : List (List Int)) (A : List Int) (a : AS) : Prop where
  inv : AInv n S A a
  fin : a.conf = false → (∀ l, Der S A l → a.val.getD l.natAbs 0 = sg l) ∧ ¬ Conf S A

structure Mid (n : Nat) (S : List (List Int)) (A : List Int) (a : AS) : Prop where
  inv : AInv n S A a
  asm : a.conf = false → ∀ l, l ∈ A → a.val.getD l.natAbs 0 = sg l

theorem Mid.add {n : Nat} {S : List (List Int)} {A : List Int} {a : AS} (h : Mid n S A a) (hS : LitsL n S) (hA : Lits n A) {l : Int} (hd : Der S A l) : Mid n S A (a.add l) :=
  have hl := hd.lit hS hA
  ⟨h.inv.add hl.1 hl.2 hd, fun hc m hm => by
    refine AS.add_keeps hl.1 (hA m hm).1 (h.asm ?_ m hm) hc
    simp only [AS.add, Bool.or_eq_false_iff] at hc
    exact hc.1⟩

/-- the first loop: the literals so far -/
theorem First.step {n : Nat} {S : List (List Int)} {A : List Int} {a : AS} {k : Nat} (h : AInv n S A a) (hA : Lits n A) (hk : k < A.length) (ha : a.conf = false → ∀ l, l ∈ A.take k → a.val.getD l.natAbs 0 = sg l) :
    AInv n S A (a.add (A.getD k 0)) ∧ ((a.add (A.getD k 0)).conf = false → ∀ l, l ∈ A.take (k + 1) → (a.add (A.getD k 0)).val.getD l.natAbs 0 = sg l) := by
  have hm := getD_mem (d := 0) hk
  have hl := hA _ hm
  refine ⟨h.add hl.1 hl.2 (.asm hm), fun hc l hl' => ?_⟩
  rw [← take_oneI hk] at hl'
  rcases List.mem_append.1 hl' with h1 | h1
  · refine AS.add_keeps hl.1 (hA l (List.mem_of_mem_take h1)).1 (ha ?_ l h1) hc
    simp only [AS.add, Bool.or_eq_false_iff] at hc
    exact hc.1
  · obtain rfl : l = A.getD k 0 := by simpa using h1
    exact AS.add_self (by rw [h.len]; omega)

theorem zeros_le (v : List Int) : zeros v ≤ v.length := List.count_le_length

theorem unit_mid {n : Nat} {S : List (List Int)} {A : List Int} {a : AS} (h : Mid n S A a) (hS : LitsL n S) (hA : Lits n A) {c : List Int} (hc : c ∈ S) (hcf : a.conf = false) :
    ((a.unit c).2 ≠ 0 ∧ (a.unit c).2.natAbs ≤ n ∧ (a.unit c).1 = a ∧ Mid n S A (a.add (a.unit c).2) ∧ zeros (a.add (a.unit c).2).val + 1 = zeros a.val) ∨
    ((a.unit c).2 = 0 ∧ Mid n S A (a.unit c).1 ∧ zeros (a.unit c).1.val = zeros a.val ∧ (((a.unit c).1 = a ∧ a.go c 0 = none) ∨ (a.unit c).1.conf = true)) := by
  obtain ⟨h1, h2, h3, h4⟩ := h.inv.unit hS hc
  by_cases e : (a.unit c).2 = 0
  · refine .inr ⟨e, ⟨h1, fun hf => ?_⟩, by rw [h2], h4 e⟩
    rcases h4 e with ⟨e1, -⟩ | e1
    · rw [e1]; exact h.asm hcf
    · rw [e1] at hf; cases hf
  · obtain ⟨e1, e2, e3, e4⟩ := h3 e
    exact .inl ⟨e, e3, e1, h.add hS hA e2, AS.zeros_add (by rw [h.inv.len]; omega) e4⟩

theorem ARep.ofNew {w w1 : World} {c n : Nat} (ho : w1.ownsRow w.heap.size 3 1 (.slice (some ⟨w.heap.size, 0, none⟩) n c) n (ints (List.replicate n 0))) (hb : Below w.heap.size w w1) (hs : w.heap.size < w1.heap.size) (hc : n ≤ c) (hm : c ≤ maxLen) (t : TypeId) :
    ARep w.heap.size (w1.alloc (.cells #[.slice (some ⟨w.heap.size, 0, none⟩) n c, .bool false] t)) w1.heap.size ⟨List.replicate n 0, false⟩ := by
  refine ⟨w.heap.size, c, t, ?_, hb.size, by omega, Nat.le_refl _, ?_, by simpa using hc, hm⟩
  · rw [alloc_heap, if_pos rfl]; simp
  · refine ownsRow_of_block (by simpa using ho) fun b hb' => ?_
    obtain rfl : w.heap.size = b := by simpa [Value.ownBlock] using hb'
    rw [alloc_heap, if_neg (by omega)]

def RProp (w : World) (n : Nat) (S : List (List Int)) (A : List Int) (e : Ending) (w' : World) : Prop :=
  ∃ g a, e = .returned (.pointer (some ⟨g, 0, none⟩)) ∧ ARep w.heap.size w' g a ∧ PFin n S A a ∧ Below w.heap.size w w'

set_option maxHeartbeats 8000000 in
theorem rprop_calls {w : World} {B B2 : Nat → Prop} {v v2 : Value} {S : List (List Int)} {A : List Int} (h : RdSS w B v S) (h2 : RdS w B2 v2 (ints A)) (n : Nat) (hn : n ≤ 100000000) (hS : LitsL n S) (hA : Lits n A) :
    Calls Try.prog 38 #[.int .i64 n, v, v2] w (RProp w n S A) := by
  obtain ⟨a1, c1, rfl, h1, hc⟩ := h.form
  obtain ⟨a2, c2, rfl, h1', hc2⟩ := h2.form
  rw [ints_length] at *
  unfold maxLen at hc hc2
  have H := Lib.hid h
  have H2 := Lib.hid h2
  have HS := Lib.hid hS
  have HA := Lib.hid hA
  clear h h2 hS hA
  obtain ⟨i3, hi3, hz3, hs3, hb3⟩ := info_parts info3
  have HI3 := Lib.hid (And.intro hi3 (And.intro hz3 (And.intro hs3 hb3)))
  clear hi3 hz3 hs3 hb3
  go_enter Try.func38, Try.ntmps38
  go_wp2_with (at_make; refine wpList_make_full _ rfl _ _ 23 rfl w.heap.size 3 i3 (.int .i64 0) 1 Try.underlying23 HI3.out.1 HI3.out.2.1 HI3.out.2.2.1 .i64 .i64 (n + 1) (n + 1) (n + 1) rfl rfl rfl rfl (by rw [HI3.out.2.2.2]; omega) (by unfold maxLen; omega) (Nat.le_refl _) ?_)
  intro w1 ho hgr
  rw [made_ints] at ho
  have hb : Below w.heap.size w w1 := (Below.refl _ w).grown hgr (Nat.le_refl _) (by simp)
  have hsz := ownsRow_lt ho _ rfl
  have HN := Lib.hid (And.intro (ARep.ofNew ho hb hsz (Nat.le_refl _) (by unfold maxLen; omega) 61) (hb.alloc hb.size (.cells #[.slice (some ⟨w.heap.size, 0, none⟩) (n + 1) (n + 1), .bool false] 61)))
  clear ho hb hgr hsz
  go_wp2_with fail
  go_loopg [8] A.length (fun kq v8 w' => ∃ (k : Nat) (a : AS), v8 = .int .i64 k ∧ k + kq = A.length ∧ Hid (ARep w.heap.size w' w1.heap.size a) ∧ Hid (AInv n S A a ∧ (a.conf = false → ∀ l, l ∈ A.take k → a.val.getD l.natAbs 0 = sg l)) ∧ Hid (Below w.heap.size w w'))
  case atStart => exact ⟨0, _, rfl, by omega, HN.out.1, ⟨AInv.init n S A, fun _ l hl => by simp at hl⟩, HN.out.2⟩
  case round =>
    clear HN
    obtain ⟨k, a, rfl, hk, HR, HI, HB⟩ := hrel
    by_cases hlt : k < A.length
    · obtain ⟨b, o, rfl, kcell, -, -⟩ := (H2.out.below HB.out).at hlt
      have hx := HA.out _ (getD_mem (d := 0) hlt)
      have HI2 := Lib.hid (First.step HI.out.1 HA.out hlt HI.out.2)
      have hlen := HI.out.1.len
      have HC := Lib.hid (radd_calls HR.out (A.getD k 0) (by rw [hlen]; omega) (by rw [hlen]; omega) (HI.out.1.rng _))
      generalize A.getD k 0 = x at *
      obtain ⟨hx0, hx1⟩ := hx
      clear HI HR hlen
      go_wp2_with (go_at_call 55; refine HC.out.mono ?_; rintro e w5 ⟨rfl, q5, b5⟩)
      have HR5 := Lib.hid q5
      have HB5 := Lib.hid (HB.out.trans b5)
      clear q5 b5 HC HB
      go_wp2
      go_roundg (gk - 1)
      case measure => omega
      case rel => exact ⟨k + 1, _, by go_num, by omega, HR5, HI2, HB5⟩
    · obtain rfl : k = A.length := by omega
      have HM : Hid (Mid n S A a) := ⟨HI.out.1, fun hc l hl => HI.out.2 hc l (by rw [List.take_length]; exact hl)⟩
      have hz := zeros_le a.val
      have hlen := HI.out.1.len
      generalize hg : w1.heap.size = g at *
      clear HI hg
      go_wp2_with fail
      go_loopg [9] (2 * n + 3) (fun kq v9 w' => ∃ (ag : Bool) (a : AS), v9 = .bool ag ∧ 2 * zeros a.val + ag.toNat ≤ kq ∧ Hid (ARep w.heap.size w' g a) ∧ Hid (Mid n S A a) ∧ Hid (ag = false → a.conf = false → ∀ c, c ∈ S → a.go c 0 = none) ∧ Hid (Below w.heap.size w w'))
      case atStart => exact ⟨true, a, rfl, by simp only [Bool.toNat_true]; omega, HR, HM, fun h => (by cases h), HB⟩
      case round =>
        clear HR HM HB hz hlen
        obtain ⟨ag, a, rfl, hk, HR, HM, HC, HB⟩ := hrel
        obtain ⟨-, -, -, gcell, gf, -⟩ := HR.out.facts
        rcases hcf : a.conf with _ | _
        · have HCF := Lib.hid hcf
          rw [hcf] at gcell
          clear hcf
          rcases ag with _ | _
          · go_wp2
            go_ret
            exact ⟨g, a, rfl, HR.out, ⟨HM.out.inv, fun hc => HM.out.inv.final HS.out HA.out (HM.out.asm hc) (HC.out (by simp) hc)⟩, HB.out⟩
          · simp only [Bool.toNat_true] at hk
            obtain ⟨ko, rfl⟩ : ∃ ko : Nat, ko = gk := ⟨_, rfl⟩
            obtain ⟨w2, ew2⟩ : ∃ w2 : World, w2 = wr := ⟨_, rfl⟩
            go_wp2_with fail
            go_loopg [9, 10] S.length (fun kq v9 v10 w' => ∃ (i : Nat) (ag : Bool) (b : AS), v9 = .bool ag ∧ v10 = .int .i64 i ∧ i + kq = S.length ∧ 2 * (zeros b.val + ag.toNat) + 1 ≤ ko ∧ Hid (ARep w.heap.size w' g b) ∧ Hid (Mid n S A b) ∧ Hid (ag = false → b.conf = false → ∀ c, c ∈ S.take i → b.go c 0 = none) ∧ Hid (Below w.heap.size w w'))
            case atStart => exact ⟨0, false, a, rfl, rfl, by omega, by simp only [Bool.toNat_false]; omega, HR, HM, fun _ _ c hc => by simp at hc, HB⟩
            case round =>
              clear HR HM HC HB HCF gcell ew2
              obtain ⟨i, ag, b, rfl, rfl, hi, hz, HR, HM, HC, HB⟩ := hrel
              obtain ⟨-, -, -, gcell, gf, -⟩ := HR.out.facts
              by_cases hlt : i < S.length
              · rcases hcf : b.conf with _ | _
                · rw [hcf] at gcell
                  obtain ⟨sb, so, a', c', rfl, kcell, hr, hl1, hl2⟩ := (H.out.below HB.out).at hlt
                  have hm := getD_mem (d := ([] : List Int)) hlt
                  have hT := take_one hlt
                  have hlen := HM.out.inv.len
                  have hu := unit_mid HM.out HS.out HA.out hm hcf
                  have HCU := Lib.hid (runit_calls HR.out hr (fun l hl => by have := HS.out _ hm l hl; rw [hlen]; exact ⟨this.1, by omega⟩) (by rw [hlen]; omega) HM.out.inv.rng)
                  generalize S.getD i [] = x at *
                  unfold maxLen at hl2
                  have HT := Lib.hid hT
                  have HCF := Lib.hid hcf
                  clear hr hm hT hcf HR
                  rcases hu with ⟨hu1, hu2, hu3, hu4, hu5⟩ | ⟨hu1, hu2, hu3, hu4⟩
                  · rw [hu3] at HCU
                    generalize (b.unit x).2 = l at *
                    have HU := Lib.hid (And.intro hu4 hu5)
                    have hrl := HM.out.inv.rng l.natAbs
                    clear hu3 hu4 hu5
                    have bl : (l != 0) = true := by simp [hu1]
                    go_wp2_with (first | (go_at_call 56; refine HCU.out.mono ?_; rintro e w5 ⟨rfl, q5, b5⟩; have HC5 := Lib.hid (radd_calls q5 l (by rw [hlen]; omega) (by rw [hlen]; omega) hrl); have HB5 := Lib.hid (HB.out.trans b5); clear q5 b5 HCU HB) | (go_at_call 55; refine HC5.out.mono ?_; rintro e w6 ⟨rfl, q6, b6⟩; have HR6 := Lib.hid q6; have HB6 := Lib.hid (HB5.out.trans b6); clear q6 b6 HC5 HB5))
                    go_roundg (gk - 1)
                    case measure => omega
                    case rel => exact ⟨i + 1, true, _, rfl, by go_num, by omega, (by have h7 := HU.out.2; have hag : ag.toNat ≤ 1 := (by cases ag <;> simp); simp only [Bool.toNat_true]; omega), HR6, HU.out.1, fun h => (by cases h), HB6⟩
                  · rw [hu1] at HCU
                    have HU := Lib.hid (And.intro hu2 (And.intro hu3 hu4))
                    clear hu1 hu2 hu3 hu4
                    go_wp2_with (go_at_call 56; refine HCU.out.mono ?_; rintro e w5 ⟨rfl, q5, b5⟩; have HR5 := Lib.hid q5; have HB5 := Lib.hid (HB.out.trans b5); clear q5 b5 HCU HB)
                    go_roundg (gk - 1)
                    case measure => omega
                    case rel =>
                      refine ⟨i + 1, ag, _, rfl, by go_num, by omega, by rw [HU.out.2.1]; exact hz, HR5, HU.out.1, fun hag hc c hcm => ?_, HB5⟩
                      rcases HU.out.2.2 with ⟨e1, e2⟩ | e1
                      · rw [e1] at hc ⊢
                        rw [← HT.out] at hcm
                        rcases List.mem_append.1 hcm with h | h
                        · exact HC.out hag hc c h
                        · obtain rfl : c = x := by simpa using h
                          exact e2
                      · rw [e1] at hc; cases hc
                · have HCF := Lib.hid hcf
                  rw [hcf] at gcell
                  clear hcf
                  have hag : ag.toNat ≤ 1 := by cases ag <;> simp
                  go_wp2
                  go_roundg (ko - 1)
                  case measure => omega
                  case rel => exact ⟨ag, b, rfl, by omega, HR, HM, fun _ hc => (by rw [HCF.out] at hc; cases hc), HB⟩
              · obtain rfl : i = S.length := by omega
                have hag : ag.toNat ≤ 1 := by cases ag <;> simp
                go_wp2
                go_roundg (ko - 1)
                case measure => omega
                case rel => exact ⟨ag, b, rfl, by omega, HR, HM, fun h1 h2 c hc => HC.out h1 h2 c (by rw [List.take_length]; exact hc), HB⟩
        · have HCF := Lib.hid hcf
          rw [hcf] at gcell
          clear hcf
          rcases ag with _ | _
          all_goals (
            go_wp2
            go_ret
            exact ⟨g, a, rfl, HR.out, ⟨HM.out.inv, fun hc => (by rw [HCF.out] at hc; cases hc)⟩, HB.out⟩)
end Go.Proofs.Ytjbdiobnlmhidaa
namespace Go.Proofs.Ytjbdiobnlmhidaa
open Go Go.RowKit

def neg (c : List Int) : List Int := c.map (fun x => -x)
open Classical in
noncomputable def confB (S : List (List Int)) (A : List Int) : Bool := decide (Conf S A)
noncomputable def rupB (S : List (List Int)) (c : List Int) : Bool := confB S (neg c)
noncomputable def rupAll : List (List Int) → List (List Int) → Bool
  | _, [] => true
  | S, c :: r => rupB S c && rupAll (S ++ [c]) r
def lastB (P : List (List Int)) : Bool := decide (P.length ≠ 0) && decide ((P.getD (P.length - 1) []).length = 0)
noncomputable def provesB (S P : List (List Int)) : Bool := lastB P && rupAll S P

def valsL (val : List Int) (n : Nat) : List Int := (List.range n).filterMap (fun i => if val.getD (i + 1) 0 ≠ 0 then some (((i + 1 : Nat) : Int) * val.getD (i + 1) 0) else none)
theorem valsL_step (val : List Int) {k : Nat} (hk : 1 ≤ k) : valsL val k = if val.getD k 0 ≠ 0 then valsL val (k - 1) ++ [(k : Int) * val.getD k 0] else valsL val (k - 1) := by
  obtain ⟨j, rfl⟩ : ∃ j, k = j + 1 := ⟨k - 1, by omega⟩
  rw [Nat.add_sub_cancel]
  unfold valsL
  rw [List.range_succ, List.filterMap_append]
  by_cases h : val.getD (j + 1) 0 = 0
  · rw [if_neg (by simp only [h]; simp)]
    simp only [List.getD_eq_getElem?_getD] at h
    simp [List.filterMap_cons, h]
  · rw [if_pos h]
    simp only [List.getD_eq_getElem?_getD] at h
    simp [List.filterMap_cons, h]
theorem fm_congr {α β : Type} {f g : α → Option β} {l : List α} (h : ∀ x, x ∈ l → f x = g x) : l.filterMap f = l.filterMap g := by
  induction l with
  | nil => rfl
  | cons x r ih => rw [List.filterMap_cons, List.filterMap_cons, h x (by simp), ih fun y hy => h y (by simp [hy])]
theorem valsL_len (val : List Int) (n : Nat) : (valsL val n).length ≤ n := by
  unfold valsL
  exact Nat.le_trans (List.length_filterMap_le _ _) (by simp)

open Classical in
noncomputable def closeL (n : Nat) (S : List (List Int)) (A : List Int) : List Int :=
  (List.range n).filterMap (fun i => if Der S A ((i + 1 : Nat) : Int) then some ((i + 1 : Nat) : Int) else if Der S A (-((i + 1 : Nat) : Int)) then some (-((i + 1 : Nat) : Int)) else none)

theorem closeL_eq {n : Nat} {S : List (List Int)} {A : List Int} {val : List Int} (hr : ∀ i, -1 ≤ val.getD i 0 ∧ val.getD i 0 ≤ 1) (h1 : ∀ l, Der S A l → val.getD l.natAbs 0 = sg l) (h2 : ∀ l : Int, l ≠ 0 → val.getD l.natAbs 0 = sg l → Der S A l) :
    valsL val n = closeL n S A := by
  unfold valsL closeL
  apply fm_congr
  intro i _
  have hri := hr (i + 1)
  have e1 : ((i + 1 : Nat) : Int).natAbs = i + 1 := by omega
  have e2 : (-((i + 1 : Nat) : Int)).natAbs = i + 1 := by omega
  have s1 : sg ((i + 1 : Nat) : Int) = 1 := by unfold sg; rw [if_neg (by omega)]
  have s2 : sg (-((i + 1 : Nat) : Int)) = -1 := by unfold sg; rw [if_pos (by omega)]
  by_cases d1 : Der S A ((i + 1 : Nat) : Int)
  · have v := h1 _ d1
    rw [e1, s1] at v
    rw [if_pos d1, v]
    simp
  · rw [if_neg d1]
    by_cases d2 : Der S A (-((i + 1 : Nat) : Int))
    · have v := h1 _ d2
      rw [e2, s2] at v
      rw [if_pos d2, v]
      simp
    · rw [if_neg d2]
      have n1 : val.getD (i + 1) 0 ≠ 1 := fun e => d1 (h2 _ (by omega) (by rw [e1, s1, e]))
      have n2 : val.getD (i + 1) 0 ≠ -1 := fun e => d2 (h2 _ (by omega) (by rw [e2, s2, e]))
      rw [if_neg (by omega)]

open Classical in
theorem confB_true {S : List (List Int)} {A : List Int} (h : Conf S A) : confB S A = true := by unfold confB; exact decide_eq_true h
open Classical in
theorem confB_false {S : List (List Int)} {A : List Int} (h : ¬ Conf S A) : confB S A = false := by unfold confB; exact decide_eq_false h
theorem confB_iff {S : List (List Int)} {A : List Int} : confB S A = true ↔ Conf S A := by
  refine ⟨fun h => ?_, confB_true⟩
  rcases Classical.em (Conf S A) with e | e
  · exact e
  · rw [confB_false e] at h; cases h
theorem PFin.conf {n : Nat} {S : List (List Int)} {A : List Int} {a : AS} (h : PFin n S A a) : a.conf = confB S A := by
  rcases hcf : a.conf with _ | _
  · rw [confB_false (h.fin hcf).2]
  · rw [confB_true (h.inv.con hcf)]

theorem neg_lits {n : Nat} {c : List Int} (h : Lits n c) : Lits n (neg c) := by
  intro l hl
  obtain ⟨x, hx, rfl⟩ := List.mem_map.1 hl
  have := h x hx
  exact ⟨by omega, by omega⟩

def BoolPost (w : World) (b : Bool) (e : Ending) (w' : World) : Prop := e = .returned (.bool b) ∧ Below w.heap.size w w'

theorem neg_take {c : List Int} {k : Nat} (h : k < c.length) : neg (c.take k) ++ [-(c.getD k 0)] = neg (c.take (k + 1)) := by
  rw [← take_oneI h]; simp [neg]

set_option maxHeartbeats 8000000 in
theorem follows_calls {w : World} {B B2 : Nat → Prop} {v v2 : Value} {S : List (List Int)} {c : List Int} (h : RdSS w B v S) (h2 : RdS w B2 v2 (ints c)) (n : Nat) (hn : n ≤ 100000000) (hS : LitsL n S) (hc : Lits n c) (hl : c.length ≤ 1000000000) :
    Calls Try.prog 40 #[.int .i64 n, v, v2] w (BoolPost w (rupB S c)) := by
  obtain ⟨a1, c1, rfl, h1, hc1⟩ := h.form
  obtain ⟨a2, c2, rfl, h1', hc2⟩ := h2.form
  rw [ints_length] at *
  unfold maxLen at hc1 hc2
  have H := Lib.hid h
  have H2 := Lib.hid h2
  have HS := Lib.hid hS
  have HC := Lib.hid hc
  clear h h2 hS hc
  go_enter Try.func40, Try.ntmps40
  go_wp2_with fail
  go_loopg [7, 8] c.length (fun kq v7 v8 w' => ∃ (k : Nat) (oa : Option Addr) (oc : Nat), v8 = .int .i64 k ∧ k + kq = c.length ∧ v7 = .slice oa k oc ∧ Hid (w'.ownsRow w.heap.size 3 1 (.slice oa k oc) k (ints (neg (c.take k)))) ∧ Hid (Below w.heap.size w w'))
  case atStart => exact ⟨0, none, 0, rfl, by omega, rfl, World.ownsRow_nil _ _ _ _, Below.refl _ _⟩
  case round =>
    obtain ⟨k, oa, oc, rfl, hk, rfl, HO, HB⟩ := hrel
    by_cases hlt : k < c.length
    · obtain ⟨b, o, rfl, kcell, -, -⟩ := (H2.out.below HB.out).at hlt
      have hx := HC.out _ (getD_mem (d := 0) hlt)
      have HT := Lib.hid (neg_take hlt)
      have hx1 : -1000000000 ≤ c.getD k 0 ∧ c.getD k 0 ≤ 1000000000 := by omega
      generalize c.getD k 0 = x at *
      clear hx
      obtain ⟨hx1, hx2⟩ := hx1
      have hlk : (ints (neg (c.take k))).length = k := by simp [neg]; omega
      have ho := World.ownsRow.alloc HO.out (.cells #[Value.int .i64 (-x)] 3)
      have hb := HB.out.alloc HB.out.size (.cells #[Value.int .i64 (-x)] 3)
      have ho2 : (wr.alloc (.cells #[Value.int .i64 (-x)] 3)).ownsRow w.heap.size 3 1 (.slice oa k oc) (ints (neg (c.take k))).length (ints (neg (c.take k))) := by rw [hlk]; exact ho
      have HO2 := Lib.hid (And.intro ho2 hb)
      have HLK := Lib.hid hlk
      clear ho hb ho2 HO HB hlk
      go_wp2_with (at_builtin; refine wpList_app_new (w0 := w) Try.underlying23 info3 rfl rfl _ _ rfl _ _ rfl HO2.out.1 HO2.out.2 _ 1 1 [.int .i64 (-x)] rfl rfl (cell_one_new _ _ _) (by simp [Value.oneCell']) (by omega) (by rw [HLK.out]; omega) ?_)
      rintro a4 n4 c4 w4 ho4 hb4 - - hn4
      have hln : (neg (c.take k)).length = k := by have := HLK.out; rwa [ints_length] at this
      obtain rfl : n4 = k + 1 := by first | omega | (rw [HLK.out] at hn4; exact hn4)
      have ho5 : w4.ownsRow w.heap.size 3 1 (.slice a4 (k + 1) c4) (k + 1) (ints (neg (c.take (k + 1)))) := by
        rw [← HT.out, ← ints_append]
        have e : (ints (neg (c.take k)) ++ [Value.int .i64 (-x)]).length = k + 1 := by rw [List.length_append, HLK.out]; rfl
        first
          | (rw [e] at ho4; exact ho4)
          | (rw [hln] at ho4; exact ho4)
      have HO5 := Lib.hid ho5
      have HB5 := Lib.hid hb4
      clear ho4 ho5 hb4 HO2
      go_wp2
      go_roundg (gk - 1)
      case measure => omega
      case rel => exact ⟨k + 1, a4, c4, by go_num, by omega, rfl, HO5, HB5⟩
    · obtain rfl : k = c.length := by omega
      have ho : wr.ownsRow w.heap.size 3 1 (.slice oa c.length oc) c.length (ints (neg c)) := by have := HO.out; rwa [List.take_length] at this
      have HP := Lib.hid (rprop_calls (H.out.below HB.out) (RdS.of_row ho) n hn HS.out (neg_lits HC.out))
      clear ho HO
      go_wp2_with (go_at_call 38; refine HP.out.mono ?_; rintro e w5 ⟨g, a, rfl, q5, f5, b5⟩; obtain ⟨-, -, -, gcell, -⟩ := q5.facts; have HF := Lib.hid f5.conf; have HB5 := Lib.hid (HB.out.trans (b5.mono HB.out.size)); clear q5 f5 b5 HP HB)
      go_ret
      exact ⟨ret_bool (by rw [HF.out]; rfl), HB5.out⟩

def PropPost (w : World) (l : List Int) (b : Bool) (k : Int) (e : Ending) (w' : World) : Prop :=
  ∃ a n c, e = .returned (.tuple #[.slice a n c, .bool b, .int .i64 k]) ∧ w'.ownsRow w.heap.size 3 1 (.slice a n c) (ints l).length (ints l) ∧ Below w.heap.size w w'

theorem lits_of_B {n : Nat} {c : List Int} (h : litsB n c = true) : Lits n c := by
  intro l hl
  have := List.all_eq_true.1 h l hl
  simp only [litB, Bool.and_eq_true, bne_iff_ne, decide_eq_true_eq] at this
  omega
theorem litsL_of_B {n : Nat} {S : List (List Int)} (h : clsB n S = true) : LitsL n S := fun c hc => lits_of_B (List.all_eq_true.1 h c hc)
theorem valid_cases {n : Int} {S : List (List Int)} (h : validB n S = true) : ∃ m : Nat, n = m ∧ m ≤ 1000 ∧ S.length ≤ 10000 ∧ clsB m S = true := by
  simp only [validB, Bool.and_eq_true, decide_eq_true_eq] at h
  refine ⟨n.toNat, by omega, by omega, by omega, ?_⟩
  rw [show ((n.toNat : Nat) : Int) = n from by omega]
  exact h.2

/-- the answer of Propagate -/
noncomputable def propL (n : Int) (S : List (List Int)) (A : List Int) : List Int := if validB n S = true ∧ litsB n A = true ∧ confB S A = false then closeL n.toNat S A else []
noncomputable def propOk (n : Int) (S : List (List Int)) (A : List Int) : Bool := validB n S && litsB n A && !confB S A
noncomputable def propErr (n : Int) (S : List (List Int)) (A : List Int) : Int := if validB n S = true ∧ litsB n A = true then 0 else 1

set_option maxHeartbeats 8000000 in
theorem rPropagate_calls {w : World} {B B2 : Nat → Prop} {v v2 : Value} {S : List (List Int)} {A : List Int} (h : RdSS w B v S) (h2 : RdS w B2 v2 (ints A)) (n : Int) :
    Calls Try.prog 16 #[.int .i64 n, v, v2] w (PropPost w (propL n S A) (propOk n S A) (propErr n S A)) := by
  obtain ⟨a1, c1, rfl, h1, hc1⟩ := h.form
  obtain ⟨a2, c2, rfl, h1', hc2⟩ := h2.form
  rw [ints_length] at *
  unfold maxLen at hc1 hc2
  have H := Lib.hid h
  have H2 := Lib.hid h2
  clear h h2
  have HC1 := Lib.hid (Clauses_calls H.out n)
  rcases hv : validB n S with _ | _
  · rw [hv] at HC1
    have HV := Lib.hid hv
    clear hv
    go_enter Try.func16, Try.ntmps16
    go_wp2_with (go_at_call 24; refine HC1.out.mono ?_; rintro e w' ⟨rfl, rfl⟩)
    go_ret3
    refine ⟨none, 0, 0, ?_, ?_, Below.refl _ _⟩
    · simp [propOk, propErr, HV.out]
    · simp only [propL, HV.out]; exact World.ownsRow_nil w w.heap.size 3 1
  · rw [hv] at HC1
    obtain ⟨m, rfl, hm, hSl, hS⟩ := valid_cases hv
    have HC2 := Lib.hid (Literals_calls H2.out (m : Int) (by omega) (by omega))
    have HV := Lib.hid hv
    have HS := Lib.hid hS
    clear hv hS
    rcases ha : litsB m A with _ | _
    · rw [ha] at HC2
      have HA := Lib.hid ha
      clear ha
      go_enter Try.func16, Try.ntmps16
      go_wp2_with (first | (go_at_call 24; refine HC1.out.mono ?_; rintro e w' ⟨rfl, rfl⟩) | (go_at_call 25; refine HC2.out.mono ?_; rintro e w' ⟨rfl, rfl⟩))
      go_ret3
      refine ⟨none, 0, 0, ?_, ?_, Below.refl _ _⟩
      · simp [propOk, propErr, HV.out, HA.out]
      · simp only [propL, HV.out, HA.out]; exact World.ownsRow_nil w w.heap.size 3 1
    · rw [ha] at HC2
      have HA := Lib.hid ha
      have HP := Lib.hid (rprop_calls H.out H2.out m (by omega) (litsL_of_B HS.out) (lits_of_B ha))
      clear ha
      rcases hcf : confB S A with _ | _
      · have HCF := Lib.hid hcf
        clear hcf
        go_enter Try.func16, Try.ntmps16
        go_wp2_with (first | (go_at_call 24; refine HC1.out.mono ?_; rintro e w' ⟨rfl, rfl⟩) | (go_at_call 25; refine HC2.out.mono ?_; rintro e w' ⟨rfl, rfl⟩) | (go_at_call 38; refine HP.out.mono ?_; rintro e w5 ⟨g, a, rfl, q5, f5, b5⟩; obtain ⟨-, -, -, gcell, -⟩ := q5.facts; rw [f5.conf, HCF.out] at gcell; have HQ := Lib.hid (And.intro q5 (And.intro f5 b5)); clear q5 f5 b5 HP))
        go_loopg [10, 11] m (fun kq v10 v11 w' => ∃ (k : Nat) (L : List Int) (oa : Option Addr) (oc : Nat), v11 = .int .i64 k ∧ 1 ≤ k ∧ k + kq = m + 1 ∧ v10 = .slice oa L.length oc ∧ L.length ≤ k ∧ Hid (L = valsL a.val (k - 1)) ∧ Hid (w'.ownsRow w5.heap.size 3 1 (.slice oa L.length oc) (ints L).length (ints L)) ∧ Hid (Below w5.heap.size w5 w'))
        case atStart => exact ⟨1, [], none, 0, rfl, by omega, by omega, rfl, by simp, rfl, World.ownsRow_nil _ _ _ _, Below.refl _ _⟩
        case round =>
          obtain ⟨k, L, oa, oc, rfl, hk1, hk, rfl, hLk, HL, HO, HB⟩ := hrel
          have q1 := HQ.out.1.kept HB.out
          have hlen := HQ.out.2.1.inv.len
          by_cases hlt : k ≤ m
          · obtain ⟨b, c, h0, -, -, -, -, -, hc1', hc2', hcell, -, -⟩ := q1.facts
            obtain ⟨xcell, -⟩ := hcell k (by omega)
            have hst := valsL_step a.val hk1
            have hr := HQ.out.2.1.inv.rng k
            rw [← HL.out] at hst
            generalize hx : a.val.getD k 0 = x at *
            rw [hlen] at h0 hc1'
            have HST := Lib.hid hst
            unfold maxLen at hc2'
            obtain ⟨hr1, hr2⟩ := hr
            clear hst hx hlen hcell q1 HL
            by_cases hz : x = 0
            · have bz : (x != 0) = false := by simp [hz]
              have HE : Hid (L = valsL a.val k) := by show _ = _; rw [HST.out, if_neg (by simp [hz])]
              clear hz
              go_wp2
              go_roundg (gk - 1)
              case measure => omega
              case rel => exact ⟨k + 1, L, oa, oc, by go_num, by omega, by omega, rfl, by omega, HE, HO, HB⟩
            · have bz : (x != 0) = true := by simp [hz]
              have HE : Hid (valsL a.val k = L ++ [(k : Int) * x]) := by show _ = _; rw [HST.out, if_pos hz]
              have hk0 : (0 : Int) ≤ (k : Int) := by omega
              have hm2 : -100000000 ≤ (k : Int) * x ∧ (k : Int) * x ≤ 100000000 := by
                have : x = -1 ∨ x = 1 := by omega
                rcases this with rfl | rfl <;> omega
              clear hz
              obtain ⟨hm3, hm4⟩ := hm2
              have HO2 := Lib.hid (And.intro (World.ownsRow.alloc HO.out (.cells #[Value.int .i64 ((k : Int) * x)] 3)) (HB.out.alloc HB.out.size (.cells #[Value.int .i64 ((k : Int) * x)] 3)))
              clear HO HB
              go_wp2_with (at_builtin; refine wpList_app_new (w0 := w5) Try.underlying23 info3 rfl rfl _ _ rfl _ _ rfl HO2.out.1 HO2.out.2 _ 1 1 [.int .i64 ((k : Int) * x)] rfl rfl (cell_one_new _ _ _) (by simp [Value.oneCell']) (by omega) (by simp; omega) ?_)
              rintro a4 n4 c4 w4 ho4 hb4 - - rfl
              have ho5 : w4.ownsRow w5.heap.size 3 1 (.slice a4 (L ++ [(k : Int) * x]).length c4) (ints (L ++ [(k : Int) * x])).length (ints (L ++ [(k : Int) * x])) := by
                rw [show [Value.int .i64 ((k : Int) * x)] = ints [(k : Int) * x] from rfl, ints_append] at ho4
                simpa using ho4
              have HO5 := Lib.hid ho5
              have HB5 := Lib.hid hb4
              clear ho4 ho5 hb4 HO2
              go_wp2
              go_roundg (gk - 1)
              case measure => omega
              case rel => exact ⟨k + 1, L ++ [(k : Int) * x], a4, c4, by go_num, by omega, by omega, by simp, by simp; omega, HE.out.symm, HO5, HB5⟩
          · obtain rfl : k = m + 1 := by omega
            have HN : Hid (propL m S A = L) := by
              show _ = _
              rw [propL, if_pos ⟨HV.out, HA.out, HCF.out⟩, HL.out]
              have hc : a.conf = false := by rw [HQ.out.2.1.conf]; exact HCF.out
              exact (closeL_eq HQ.out.2.1.inv.rng (HQ.out.2.1.fin hc).1 HQ.out.2.1.inv.der).symm
            have HO1 := Lib.hid (ownsRow_base HO.out fun b hb => Nat.le_trans HQ.out.2.2.size ((World.ownsRow.lt HO.out b hb).1))
            have HB1 := Lib.hid (HQ.out.2.2.trans (HB.out.mono HQ.out.2.2.size))
            clear HO HB q1 hlen
            go_wp2
            go_ret3
            refine ⟨oa, L.length, oc, ?_, ?_, HB1.out⟩
            · rw [propOk, propErr, HV.out, HA.out, HCF.out]; rfl
            · rw [HN.out]; exact HO1.out
      · have HCF := Lib.hid hcf
        clear hcf
        go_enter Try.func16, Try.ntmps16
        go_wp2_with (first | (go_at_call 24; refine HC1.out.mono ?_; rintro e w' ⟨rfl, rfl⟩) | (go_at_call 25; refine HC2.out.mono ?_; rintro e w' ⟨rfl, rfl⟩) | (go_at_call 38; refine HP.out.mono ?_; rintro e w5 ⟨g, a, rfl, q5, f5, b5⟩; obtain ⟨-, -, -, gcell, -⟩ := q5.facts; rw [f5.conf, HCF.out] at gcell; have HB5 := Lib.hid b5; clear q5 f5 b5 HP))
        go_ret3
        refine ⟨none, 0, 0, ?_, ?_, HB5.out⟩
        · rw [propOk, propErr, HV.out, HA.out, HCF.out]; rfl
        · rw [show propL m S A = [] from by rw [propL, if_neg (by simp [HCF.out])]]; exact World.ownsRow_nil w5 w.heap.size 3 1
end Go.Proofs.Ytjbdiobnlmhidaa
namespace Go.Proofs.Ytjbdiobnlmhidaa
open Go Go.RowKit

noncomputable def rupR (n : Int) (S : List (List Int)) (c : List Int) : Bool := validB n S && litsB n c && rupB S c
noncomputable def checkR (n : Int) (S P : List (List Int)) : Bool := validB n S && clsB n P && provesB S P

set_option maxHeartbeats 8000000 in
theorem rRup_calls {w : World} {B B2 : Nat → Prop} {v v2 : Value} {S : List (List Int)} {A : List Int} (h : RdSS w B v S) (h2 : RdS w B2 v2 (ints A)) (n : Int) (hl : A.length ≤ 1000000000) :
    Calls Try.prog 20 #[.int .i64 n, v, v2] w (BoolPost w (rupR n S A)) := by
  obtain ⟨a1, c1, rfl, h1, hc1⟩ := h.form
  obtain ⟨a2, c2, rfl, h1', hc2⟩ := h2.form
  rw [ints_length] at *
  unfold maxLen at hc1 hc2
  have H := Lib.hid h
  have H2 := Lib.hid h2
  clear h h2
  have HC1 := Lib.hid (Clauses_calls H.out n)
  rcases hv : validB n S with _ | _
  · rw [hv] at HC1
    have HV := Lib.hid hv
    clear hv
    go_enter Try.func20, Try.ntmps20
    go_wp2_with (go_at_call 24; refine HC1.out.mono ?_; rintro e w' ⟨rfl, rfl⟩)
    go_ret
    exact ⟨ret_bool (by rw [rupR, HV.out]; rfl), Below.refl _ _⟩
  · rw [hv] at HC1
    obtain ⟨m, rfl, hm, hSl, hS⟩ := valid_cases hv
    have HC2 := Lib.hid (Literals_calls H2.out (m : Int) (by omega) (by omega))
    have HV := Lib.hid hv
    have HS := Lib.hid hS
    clear hv hS
    rcases ha : litsB m A with _ | _
    · rw [ha] at HC2
      have HA := Lib.hid ha
      clear ha
      go_enter Try.func20, Try.ntmps20
      go_wp2_with (first | (go_at_call 24; refine HC1.out.mono ?_; rintro e w' ⟨rfl, rfl⟩) | (go_at_call 25; refine HC2.out.mono ?_; rintro e w' ⟨rfl, rfl⟩))
      go_ret
      exact ⟨ret_bool (by rw [rupR, HV.out, HA.out]; rfl), Below.refl _ _⟩
    · rw [ha] at HC2
      have HA := Lib.hid ha
      have HP := Lib.hid (follows_calls H.out H2.out m (by omega) (litsL_of_B HS.out) (lits_of_B ha) hl)
      clear ha
      go_enter Try.func20, Try.ntmps20
      go_wp2_with (first | (go_at_call 24; refine HC1.out.mono ?_; rintro e w' ⟨rfl, rfl⟩) | (go_at_call 25; refine HC2.out.mono ?_; rintro e w' ⟨rfl, rfl⟩) | (go_at_call 40; refine HP.out.mono ?_; rintro e w5 ⟨rfl, b5⟩; have HB5 := Lib.hid b5; clear b5 HP))
      go_ret
      exact ⟨ret_bool (by rw [rupR, HV.out, HA.out]; rfl), HB5.out⟩

theorem RdSS.lt {w : World} {B : Nat → Prop} {v : Value} {ll : List (List Int)} (h : RdSS w B v ll) : RdSS w (fun b => b < w.heap.size) v ll := h.kept (Nat.le_refl _) fun _ hlt _ => ⟨hlt, rfl⟩
theorem RdS.lt {w : World} {B : Nat → Prop} {v : Value} {xs : List Value} (h : RdS w B v xs) : RdS w (fun b => b < w.heap.size) v xs := h.kept (Nat.le_refl _) fun _ hlt _ => ⟨hlt, rfl⟩

theorem rowstep {w w1 : World} {oa : Option Addr} {k oc : Nat} {ll : List (List Int)} {y : Value} {x : List Int} (HO : OSS w.heap.size w1 (.slice oa k oc) ll) (HB : Below w.heap.size w w1) (hr : RdS w1 (fun b => b < w.heap.size) y (ints x)) :
    OSS w.heap.size (w1.alloc (.cells #[y] 23)) (.slice oa k oc) ll ∧ Below w.heap.size w (w1.alloc (.cells #[y] 23)) ∧ RowsAt (w1.alloc (.cells #[y] 23)) (fun b => (Value.slice oa k oc).ownBlock ≠ some b) [y] [x] :=
  ⟨HO.alloc _, HB.alloc HB.size _, RowsAt.one (hr.kept (by simp) fun b hlt hb => ⟨fun e => by have := (HO.ge b e).1; omega, Below.heap_alloc _ _ _ hlt⟩)⟩

theorem cell_lt {w : World} {b i : Nat} {s : Option Nat} {x : Value} (h : w.cell? ⟨b, i, s⟩ = some x) : b < w.heap.size := by
  rcases Nat.lt_or_ge b w.heap.size with h' | h'
  · exact h'
  · rw [World.cell?] at h; simp [Array.getElem?_eq_none h'] at h

theorem rupAll_step {S P : List (List Int)} {k : Nat} (h : k < P.length) : rupAll (S ++ P.take k) (P.drop k) = (rupB (S ++ P.take k) (P.getD k []) && rupAll (S ++ P.take (k + 1)) (P.drop (k + 1))) := by
  rw [drop_cons [] h, ← take_one h, ← List.append_assoc]; rfl

set_option maxHeartbeats 8000000 in
theorem rproves_calls {w : World} {B B2 : Nat → Prop} {v v2 : Value} {S P : List (List Int)} (h : RdSS w B v S) (h2 : RdSS w B2 v2 P) (n : Nat) (hn : n ≤ 100000000) (hS : LitsL n S) (hP : LitsL n P) (hSl : S.length ≤ 100000000) (hPl : P.length ≤ 100000000) (hl : ∀ c, c ∈ P → c.length ≤ 1000000000) :
    Calls Try.prog 43 #[.int .i64 n, v, v2] w (BoolPost w (provesB S P)) := by
  obtain ⟨a1, c1, rfl, h1, hc1⟩ := h.form
  obtain ⟨a2, c2, rfl, h1', hc2⟩ := h2.form
  unfold maxLen at hc1 hc2
  have H2 := Lib.hid h2.lt
  have HS := Lib.hid hS
  have HP := Lib.hid hP
  have HL := Lib.hid hl
  by_cases hp : P.length = 0
  · have HLB : Hid (provesB S P = false) := by show _ = _; rw [provesB, lastB, hp]; rfl
    have b0 : ((P.length : Int) == 0) = true := by simp [hp]
    clear hl hS hP h2 h
    go_enter Try.func43, Try.ntmps43
    go_wp2
    go_ret
    exact ⟨ret_bool HLB.out.symm, Below.refl _ _⟩
  · obtain ⟨b, o, a', c', rfl, kcell, -, hl1, hl2⟩ := H2.out.at (i := P.length - 1) (by omega)
    have b0 : ((P.length : Int) == 0) = false := by simp [hp]
    have en : ((P.length : Int) - 1).toNat = P.length - 1 := by omega
    have hpp : 0 < P.length := by omega
    unfold maxLen at hl2
    by_cases hlast : (P.getD (P.length - 1) []).length = 0
    case neg =>
      have HLB : Hid (provesB S P = false) := by show _ = _; rw [provesB, lastB, decide_eq_false hlast, Bool.and_false]; rfl
      have hlp : 0 < (P.getD (P.length - 1) []).length := by omega
      generalize (P.getD (P.length - 1) []).length = z at *
      clear hl hS hP h2 h hp hlast
      go_enter Try.func43, Try.ntmps43
      go_wp2
      go_ret
      exact ⟨ret_bool HLB.out.symm, Below.refl _ _⟩
    case pos =>
      have HLB : Hid (provesB S P = rupAll S P) := by show _ = _; rw [provesB, lastB, decide_eq_true hlast, decide_eq_true hp]; rfl
      rw [hlast] at kcell
      clear hl1 hl2 hlast
      obtain ⟨vs, hv1, hv2⟩ := h.rows
      have hv3 := RowsAt.off (OSS.empty_new w (Nat.le_refl _)) hv2 (Nat.le_refl _) ((Below.refl _ w).alloc (Nat.le_refl _) (.cells #[] 23))
      have K := Lib.hid (And.intro (hv1.below ((Below.refl _ w).alloc (Nat.le_refl _) (.cells #[] 23))) hv3)
      clear hl hS hP h2 h hp hv1 hv2 hv3
      go_enter Try.func43, Try.ntmps43
      go_wp2_with (at_builtin; refine wpList_pushes (w0 := w) rfl _ _ rfl _ _ rfl (OSS.empty_new w (Nat.le_refl _)) ((Below.refl _ w).alloc (Nat.le_refl _) (.cells #[] 23)) _ S rfl K.out.1 K.out.2 (by simp; omega) ?_)
      rintro a4 n4 c4 w4 ho4 hb4 - hn4
      obtain rfl : n4 = S.length + 0 := by simpa using hn4
      have HO := Lib.hid (And.intro ho4 hb4)
      clear ho4 hb4 hn4 K
      go_wp2_with fail
      go_loopg [7, 8] P.length (fun kq v7 v8 w' => ∃ (k : Nat) (oa : Option Addr) (oc : Nat), v8 = .int .i64 k ∧ k + kq = P.length ∧ v7 = .slice oa (S.length + k) oc ∧ Hid (OSS w.heap.size w' (.slice oa (S.length + k) oc) (S ++ P.take k)) ∧ Hid (rupAll (S ++ P.take k) (P.drop k) = rupAll S P) ∧ Hid (Below w.heap.size w w'))
      case atStart => exact ⟨0, _, _, rfl, by omega, rfl, by show OSS _ _ _ _; simpa using HO.out.1, by show _ = _; simp, HO.out.2⟩
      case round =>
        clear HO
        obtain ⟨k, oa, oc, rfl, hk, rfl, HO, HG, HB⟩ := hrel
        by_cases hlt : k < P.length
        · obtain ⟨b5, o5, a5, c5, ee, kcell5, hr, hl1, hl2⟩ := (H2.out.below HB.out).at hlt
          cases ee
          have hm := getD_mem (d := ([] : List Int)) hlt
          have hst := rupAll_step (S := S) hlt
          rw [HG.out] at hst
          have HC := Lib.hid (follows_calls HO.out.rd hr n hn (fun c hc => by
            rcases List.mem_append.1 hc with h | h
            · exact HS.out c h
            · exact HP.out c (List.mem_of_mem_take h)) (HP.out _ hm) (HL.out _ hm))
          have hT : S ++ P.take k ++ [P.getD k []] = S ++ P.take (k + 1) := by rw [List.append_assoc, take_one hlt]
          have hsl : (S ++ P.take k).length = S.length + k := by simp; omega
          have HR := Lib.hid hr
          generalize P.getD k [] = x at *
          generalize hAll : S ++ P.take k = all at *
          unfold maxLen at hl2
          rcases hb : rupB all x with _ | _
          · rw [hb] at HC
            have HF : Hid (rupAll S P = false) := by show _ = _; rw [hst, hb]; rfl
            clear hst hb hT hAll hr
            go_wp2_with (go_at_call 40; refine HC.out.mono ?_; rintro e w5 ⟨rfl, b5⟩; have HB5 := Lib.hid (HB.out.trans (b5.mono HB.out.size)); clear b5)
            go_ret
            exact ⟨ret_bool (by rw [HLB.out, HF.out]), HB5.out⟩
          · rw [hb] at HC
            have HF : Hid (rupAll (S ++ P.take (k + 1)) (P.drop (k + 1)) = rupAll S P) := by show _ = _; rw [hst, hb]; rfl
            have HT := Lib.hid hT
            clear hst hb hT hAll hr
            go_wp2_with (first | (go_at_call 40; refine HC.out.mono ?_; rintro e w5 ⟨rfl, b5⟩; have kcell7 := (World.cell?_of_block (a := ⟨b, o + k, none⟩) (b5.block b (cell_lt kcell5))).trans kcell5; have K := Lib.hid (rowstep (HO.out.kept b5) (HB.out.trans (b5.mono HB.out.size)) (HR.out.below b5)); clear b5 HC HO HB HR) | (at_builtin; refine wpList_pushes (w0 := w) rfl _ _ rfl _ _ rfl K.out.1 K.out.2.1 _ [x] rfl (RdS.one_new _ _ _) K.out.2.2 (by rw [hsl]; simp; omega) ?_))
            rintro a7 n7 c7 w7 ho7 hb7 - hn7
            rw [HT.out] at ho7
            obtain rfl : n7 = S.length + (k + 1) := by (try simp only [List.length_cons, List.length_nil, hsl] at hn7); omega
            have HO7 := Lib.hid ho7
            have HB7 := Lib.hid hb7
            clear ho7 hb7 hn7 K
            go_wp2
            go_roundg (gk - 1)
            case measure => omega
            case rel => exact ⟨k + 1, a7, c7, by go_num, by omega, rfl, HO7, HF, HB7⟩
        · obtain rfl : k = P.length := by omega
          have HF : Hid (rupAll S P = true) := by show _ = _; rw [← HG.out, List.drop_length]; rfl
          go_wp2
          go_ret
          exact ⟨ret_bool (by rw [HLB.out, HF.out]), HB.out⟩

set_option maxHeartbeats 8000000 in
theorem rCheck_calls {w : World} {B B2 : Nat → Prop} {v v2 : Value} {S P : List (List Int)} (h : RdSS w B v S) (h2 : RdSS w B2 v2 P) (n : Int) (hPl : P.length ≤ 100000000) (hl : ∀ c, c ∈ P → c.length ≤ 1000000000) :
    Calls Try.prog 22 #[.int .i64 n, v, v2] w (BoolPost w (checkR n S P)) := by
  obtain ⟨a1, c1, rfl, h1, hc1⟩ := h.form
  obtain ⟨a2, c2, rfl, h1', hc2⟩ := h2.form
  unfold maxLen at hc1 hc2
  have H := Lib.hid h
  have H2 := Lib.hid h2
  clear h h2
  have HC1 := Lib.hid (Clauses_calls H.out n)
  rcases hv : validB n S with _ | _
  · rw [hv] at HC1
    have HV := Lib.hid hv
    clear hv
    go_enter Try.func22, Try.ntmps22
    go_wp2_with (go_at_call 24; refine HC1.out.mono ?_; rintro e w' ⟨rfl, rfl⟩)
    go_ret
    exact ⟨ret_bool (by rw [checkR, HV.out]; rfl), Below.refl _ _⟩
  · rw [hv] at HC1
    obtain ⟨m, rfl, hm, hSl, hS⟩ := valid_cases hv
    have HC2 := Lib.hid (literals_calls H2.out (m : Int) (by omega) (by omega))
    have HV := Lib.hid hv
    have HS := Lib.hid hS
    clear hv hS
    rcases ha : clsB m P with _ | _
    · rw [ha] at HC2
      have HA := Lib.hid ha
      clear ha
      go_enter Try.func22, Try.ntmps22
      go_wp2_with (first | (go_at_call 24; refine HC1.out.mono ?_; rintro e w' ⟨rfl, rfl⟩) | (go_at_call 42; refine HC2.out.mono ?_; rintro e w' ⟨rfl, rfl⟩))
      go_ret
      exact ⟨ret_bool (by rw [checkR, HV.out, HA.out]; rfl), Below.refl _ _⟩
    · rw [ha] at HC2
      have HA := Lib.hid ha
      have HP := Lib.hid (rproves_calls H.out H2.out m (by omega) (litsL_of_B HS.out) (litsL_of_B ha) (by omega) hPl hl)
      clear ha hl
      go_enter Try.func22, Try.ntmps22
      go_wp2_with (first | (go_at_call 24; refine HC1.out.mono ?_; rintro e w' ⟨rfl, rfl⟩) | (go_at_call 42; refine HC2.out.mono ?_; rintro e w' ⟨rfl, rfl⟩) | (go_at_call 43; refine HP.out.mono ?_; rintro e w5 ⟨rfl, b5⟩; have HB5 := Lib.hid b5; clear b5 HP))
      go_ret
      exact ⟨ret_bool (by rw [checkR, HV.out, HA.out]; rfl), HB5.out⟩
end Go.Proofs.Ytjbdiobnlmhidaa
