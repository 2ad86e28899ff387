/- Proved here: a new solver. Conditions: those that each theorem states. -/
import Derived.Test.YtjbdiobnlmhidaaB2
import Derived.RegionTactic
import Derived.BigRegion
set_option linter.unusedVariables false
set_option linter.unusedSimpArgs false
namespace Go.Proofs.Ytjbdiobnlmhidaa
open Go Go.RowKit

theorem info70 : (Try.prog.info? 70).map (fun i => (i.zero, i.size, i.bytes)) = some (some (.int .u64 0), 1, 8) := by kernel_rfl

def SS.init (n : Nat) : SS := ⟨PS.init n, [], [], List.replicate (n + 1) 0⟩
def NewSol (n : Nat) (w : World) (e : Ending) (w' : World) : Prop :=
  ∃ g R u s, e = .returned (.pointer (some ⟨g, 0, none⟩)) ∧ SRep R w' g u s (SS.init n) ∧ (∀ b r, R b = some r → w.heap.size ≤ b) ∧ Below w.heap.size w w'


theorem drewH (w : World) : w.drew.heap = w.heap := rfl
theorem alloc_at (X : World) (o : Obj) (g : Nat) (h : g = X.heap.size) : (X.alloc o).heap[g]? = some o := by rw [alloc_heap, if_pos h]

theorem ns_close {n : Nat} {w wc w1 W : World} {g0 g bl ba bp : Nat} {R0 : Roles} {u0 : PV} (hn : n ≤ 100000000) (r0 : Rep R0 w1 g0 68 [] u0 (PS.init n)) (ge0 : ∀ b r, R0 b = some r → wc.heap.size ≤ b) 
    (hg : W.heap[g]? = some (.cells #[u0.cls, u0.uni, u0.wat, .int .i64 (n : Int), u0.val, u0.rea, u0.tra, .int .i64 0, .int .i64 (-1), .int .i64 0, .slice none 0 0, .slice none 0 0, .slice (some ⟨bl, 0, none⟩) (n + 1) (n + 1), .slice (some ⟨ba, 0, none⟩) (n + 1) (n + 1), .int .u64 1, .slice (some ⟨bp, 0, none⟩) (n + 1) (n + 1)] 72 (0, 0)))
    (hl : W.heap[bl]? = some (.cells (repA (.int .i64 0) (n + 1)) 3 (0, 0))) (ha : W.heap[ba]? = some (.cells (repA (.int .u64 0) (n + 1)) 70 (0, 0))) (hp : W.heap[bp]? = some (.cells (repA (.int .i8 0) (n + 1)) 79 (0, 0)))
    (hd : (bl ≠ ba ∧ bl ≠ bp ∧ ba ≠ bp) ∧ (bl ≠ g ∧ ba ≠ g ∧ bp ≠ g)) (hk : ∀ b r, R0 b = some r → (b ≠ bl ∧ b ≠ ba ∧ b ≠ bp ∧ b ≠ g) ∧ W.heap[b]? = w1.heap[b]?)
    (hge : w.heap.size ≤ bl ∧ w.heap.size ≤ ba ∧ w.heap.size ≤ bp ∧ w.heap.size ≤ g ∧ w.heap.size ≤ wc.heap.size) (hb : Below w.heap.size w W) : NewSol n w (.returned (.pointer (some ⟨g, 0, none⟩))) W := by
  obtain ⟨⟨d1, d2, d3⟩, d4, d5, d6⟩ := hd
  obtain ⟨g1, g2, g3, g4, g5⟩ := hge
  have eR : ∀ b r, R0 b = some r → b ≠ g0 → (if b = g then some ((0, 0) : Role) else if b = bl then some (13, 0) else if b = ba then some (14, 0) else if b = bp then some (15, 0) else if b = g0 then none else R0 b) = some r := fun b r hr hne => by
    obtain ⟨⟨k1, k2, k3, k4⟩, -⟩ := hk b r hr
    rw [if_neg k4, if_neg k1, if_neg k2, if_neg k3, if_neg hne]; exact hr
  have own : ∀ {r : Role} {E : TypeId} {v : Value} {xs : List Value}, r ≠ (0, 0) → OwnS R0 w1 r E v xs → OwnS (fun b => if b = g then some ((0, 0) : Role) else if b = bl then some (13, 0) else if b = ba then some (14, 0) else if b = bp then some (15, 0) else if b = g0 then none else R0 b) W r E v xs := fun {r E v xs} hr h =>
    ⟨ownsRow_of_block h.1 (fun b hb => (hk b r (h.2 b hb)).2), fun b hb => eR b r (h.2 b hb) (fun e => by
      have := h.2 b hb
      rw [e, r0.rg] at this
      cases this
      exact hr rfl)⟩
  refine ⟨g, _, u0, ⟨.slice none 0 0, .slice none 0 0, .slice (some ⟨bl, 0, none⟩) (n + 1) (n + 1), .slice (some ⟨ba, 0, none⟩) (n + 1) (n + 1), 1, .slice (some ⟨bp, 0, none⟩) (n + 1) (n + 1), []⟩, rfl, ⟨⟨hg, if_pos rfl, ?_, own (by simp) r0.cls, own (by simp) r0.uni, own (by simp) r0.wat, own (by simp) r0.val, own (by simp) r0.rea, own (by simp) r0.tra, r0.clen, fun i hi => own (by simp) (r0.crow i hi), r0.wlen, fun i hi => own (by simp) (r0.wrow i hi)⟩, ⟨OwnS.nil _ _ _ _, rfl, (fun i hi => by cases hi), OwnS.nil _ _ _ _, ⟨?_, ?_⟩, ⟨List.replicate (n + 1) 0, ⟨?_, ?_⟩, ?_, ?_⟩, ⟨by show (0 : Int) ≤ 1; omega, by show (1 : Int) ≤ _; omega⟩, ⟨List.replicate (n + 1) 0, ⟨?_, ?_⟩, ?_, ?_⟩⟩⟩, ?_, hb⟩
  · intro b r hr
    try dsimp only at hr
    split at hr
    · subst_vars; exact lt_of_heap hg
    · split at hr
      · subst_vars; exact lt_of_heap hl
      · split at hr
        · subst_vars; exact lt_of_heap ha
        · split at hr
          · subst_vars; exact lt_of_heap hp
          · split at hr
            · cases hr
            · have h1 := (hk b r hr).2
              have h2 := r0.dom b r hr
              have h3 : w1.heap[b]? = some w1.heap[b] := Array.getElem?_eq_getElem h2
              rw [h3] at h1
              exact lt_of_heap h1
  · have := ownsRow_repB hl (by unfold maxLen; omega); simpa [ints, SS.init] using this
  · intro b hb'; simp [Value.ownBlock] at hb'; subst hb'; show (if _ = g then _ else _) = _; rw [if_neg d4, if_pos rfl]
  · have := ownsRow_repB ha (by unfold maxLen; omega); simpa [u64s] using this
  · intro b hb'; simp [Value.ownBlock] at hb'; subst hb'; show (if _ = g then _ else _) = _; rw [if_neg d5, if_neg (fun e => d1 e.symm), if_pos rfl]
  · show ((List.replicate (n + 1) (0 : Int)).length : Int) = (n : Int) + 1; simp
  · intro x hx; have := List.eq_of_mem_replicate hx; omega
  · have := ownsRow_repB hp (by unfold maxLen; omega); simpa [i8s] using this
  · intro b hb'; simp [Value.ownBlock] at hb'; subst hb'; show (if _ = g then _ else _) = _; rw [if_neg d6, if_neg (fun e => d2 e.symm), if_neg (fun e => d3 e.symm), if_pos rfl]
  · show ((List.replicate (n + 1) (0 : Int)).length : Int) = (n : Int) + 1; simp
  · intro x hx; have := List.eq_of_mem_replicate hx; omega
  · intro b r hr
    try dsimp only at hr
    split at hr
    · omega
    · split at hr
      · omega
      · split at hr
        · omega
        · split at hr
          · omega
          · split at hr
            · cases hr
            · have := ge0 b r hr; omega

set_option maxRecDepth 100000 in
set_option maxHeartbeats 16000000 in
theorem newSolver_calls (n : Nat) (hn : n ≤ 100000000) (w : World) : Calls Try.prog 44 #[.int .i64 n] w (NewSol n w) := by
  have m23 := run_mk (t := 23) (E := 3) Try.underlying23 info3 rfl (by omega) ((n : Int) + 1) (n + 1) (by omega) (by omega)
  have m69 := run_mk (t := 69) (E := 70) Try.underlying69 info70 rfl (by omega) ((n : Int) + 1) (n + 1) (by omega) (by omega)
  have m66 := run_mk (t := 66) (E := 79) Try.underlying66 info79 rfl (by omega) ((n : Int) + 1) (n + 1) (by omega) (by omega)
  have hs3 : IntKind.i64.wrap ((n : Int) + 1) = (n : Int) + 1 := IntWalk.i64_in _ (by omega)
  go_enter Try.func44, Try.ntmps44
  go_wp2_with fail
  go_region_with ((go_at_call 52; refine (newprop_calls n hn _).mono ?_; rintro e w1 ⟨g0, R0, u0, rfl, r0, ge0, b0⟩; obtain ⟨e0, e1, e2, e3, e4, e5, e6, e7, e8, e9⟩ := r0.cells; replace e3 : w1.cell? ⟨g0, 3, none⟩ = some (.int .i64 (n : Int)) := e3; replace e7 : w1.cell? ⟨g0, 7, none⟩ = some (.int .i64 0) := e7; replace e8 : w1.cell? ⟨g0, 8, none⟩ = some (.int .i64 (-1)) := e8; replace e9 : w1.cell? ⟨g0, 9, none⟩ = some (.int .i64 0) := e9; have f1_0 : ∀ o0, (w1.alloc o0).cell? ⟨g0, 0, none⟩ = some (u0.cls) := (fun o0 => (cell_alloc_kept o0 e0)); have f1_1 : ∀ o0, (w1.alloc o0).cell? ⟨g0, 1, none⟩ = some (u0.uni) := (fun o0 => (cell_alloc_kept o0 e1)); have f1_2 : ∀ o0, (w1.alloc o0).cell? ⟨g0, 2, none⟩ = some (u0.wat) := (fun o0 => (cell_alloc_kept o0 e2)); have f1_3 : ∀ o0, (w1.alloc o0).cell? ⟨g0, 3, none⟩ = some (.int .i64 (n : Int)) := (fun o0 => (cell_alloc_kept o0 e3)); have f1_4 : ∀ o0, (w1.alloc o0).cell? ⟨g0, 4, none⟩ = some (u0.val) := (fun o0 => (cell_alloc_kept o0 e4)); have f1_5 : ∀ o0, (w1.alloc o0).cell? ⟨g0, 5, none⟩ = some (u0.rea) := (fun o0 => (cell_alloc_kept o0 e5)); have f1_6 : ∀ o0, (w1.alloc o0).cell? ⟨g0, 6, none⟩ = some (u0.tra) := (fun o0 => (cell_alloc_kept o0 e6)); have f1_7 : ∀ o0, (w1.alloc o0).cell? ⟨g0, 7, none⟩ = some (.int .i64 0) := (fun o0 => (cell_alloc_kept o0 e7)); have f1_8 : ∀ o0, (w1.alloc o0).cell? ⟨g0, 8, none⟩ = some (.int .i64 (-1)) := (fun o0 => (cell_alloc_kept o0 e8)); have f1_9 : ∀ o0, (w1.alloc o0).cell? ⟨g0, 9, none⟩ = some (.int .i64 0) := (fun o0 => (cell_alloc_kept o0 e9)); have f2_0 : ∀ o0 o1, ((w1.alloc o0).alloc o1).cell? ⟨g0, 0, none⟩ = some (u0.cls) := (fun o0 o1 => (cell_alloc_kept o1 (cell_alloc_kept o0 e0))); have f2_1 : ∀ o0 o1, ((w1.alloc o0).alloc o1).cell? ⟨g0, 1, none⟩ = some (u0.uni) := (fun o0 o1 => (cell_alloc_kept o1 (cell_alloc_kept o0 e1))); have f2_2 : ∀ o0 o1, ((w1.alloc o0).alloc o1).cell? ⟨g0, 2, none⟩ = some (u0.wat) := (fun o0 o1 => (cell_alloc_kept o1 (cell_alloc_kept o0 e2))); have f2_3 : ∀ o0 o1, ((w1.alloc o0).alloc o1).cell? ⟨g0, 3, none⟩ = some (.int .i64 (n : Int)) := (fun o0 o1 => (cell_alloc_kept o1 (cell_alloc_kept o0 e3))); have f2_4 : ∀ o0 o1, ((w1.alloc o0).alloc o1).cell? ⟨g0, 4, none⟩ = some (u0.val) := (fun o0 o1 => (cell_alloc_kept o1 (cell_alloc_kept o0 e4))); have f2_5 : ∀ o0 o1, ((w1.alloc o0).alloc o1).cell? ⟨g0, 5, none⟩ = some (u0.rea) := (fun o0 o1 => (cell_alloc_kept o1 (cell_alloc_kept o0 e5))); have f2_6 : ∀ o0 o1, ((w1.alloc o0).alloc o1).cell? ⟨g0, 6, none⟩ = some (u0.tra) := (fun o0 o1 => (cell_alloc_kept o1 (cell_alloc_kept o0 e6))); have f2_7 : ∀ o0 o1, ((w1.alloc o0).alloc o1).cell? ⟨g0, 7, none⟩ = some (.int .i64 0) := (fun o0 o1 => (cell_alloc_kept o1 (cell_alloc_kept o0 e7))); have f2_8 : ∀ o0 o1, ((w1.alloc o0).alloc o1).cell? ⟨g0, 8, none⟩ = some (.int .i64 (-1)) := (fun o0 o1 => (cell_alloc_kept o1 (cell_alloc_kept o0 e8))); have f2_9 : ∀ o0 o1, ((w1.alloc o0).alloc o1).cell? ⟨g0, 9, none⟩ = some (.int .i64 0) := (fun o0 o1 => (cell_alloc_kept o1 (cell_alloc_kept o0 e9))); have f3_0 : ∀ o0 o1 o2, (((w1.alloc o0).alloc o1).alloc o2).cell? ⟨g0, 0, none⟩ = some (u0.cls) := (fun o0 o1 o2 => (cell_alloc_kept o2 (cell_alloc_kept o1 (cell_alloc_kept o0 e0)))); have f3_1 : ∀ o0 o1 o2, (((w1.alloc o0).alloc o1).alloc o2).cell? ⟨g0, 1, none⟩ = some (u0.uni) := (fun o0 o1 o2 => (cell_alloc_kept o2 (cell_alloc_kept o1 (cell_alloc_kept o0 e1)))); have f3_2 : ∀ o0 o1 o2, (((w1.alloc o0).alloc o1).alloc o2).cell? ⟨g0, 2, none⟩ = some (u0.wat) := (fun o0 o1 o2 => (cell_alloc_kept o2 (cell_alloc_kept o1 (cell_alloc_kept o0 e2)))); have f3_3 : ∀ o0 o1 o2, (((w1.alloc o0).alloc o1).alloc o2).cell? ⟨g0, 3, none⟩ = some (.int .i64 (n : Int)) := (fun o0 o1 o2 => (cell_alloc_kept o2 (cell_alloc_kept o1 (cell_alloc_kept o0 e3)))); have f3_4 : ∀ o0 o1 o2, (((w1.alloc o0).alloc o1).alloc o2).cell? ⟨g0, 4, none⟩ = some (u0.val) := (fun o0 o1 o2 => (cell_alloc_kept o2 (cell_alloc_kept o1 (cell_alloc_kept o0 e4)))); have f3_5 : ∀ o0 o1 o2, (((w1.alloc o0).alloc o1).alloc o2).cell? ⟨g0, 5, none⟩ = some (u0.rea) := (fun o0 o1 o2 => (cell_alloc_kept o2 (cell_alloc_kept o1 (cell_alloc_kept o0 e5)))); have f3_6 : ∀ o0 o1 o2, (((w1.alloc o0).alloc o1).alloc o2).cell? ⟨g0, 6, none⟩ = some (u0.tra) := (fun o0 o1 o2 => (cell_alloc_kept o2 (cell_alloc_kept o1 (cell_alloc_kept o0 e6)))); have f3_7 : ∀ o0 o1 o2, (((w1.alloc o0).alloc o1).alloc o2).cell? ⟨g0, 7, none⟩ = some (.int .i64 0) := (fun o0 o1 o2 => (cell_alloc_kept o2 (cell_alloc_kept o1 (cell_alloc_kept o0 e7)))); have f3_8 : ∀ o0 o1 o2, (((w1.alloc o0).alloc o1).alloc o2).cell? ⟨g0, 8, none⟩ = some (.int .i64 (-1)) := (fun o0 o1 o2 => (cell_alloc_kept o2 (cell_alloc_kept o1 (cell_alloc_kept o0 e8)))); have f3_9 : ∀ o0 o1 o2, (((w1.alloc o0).alloc o1).alloc o2).cell? ⟨g0, 9, none⟩ = some (.int .i64 0) := (fun o0 o1 o2 => (cell_alloc_kept o2 (cell_alloc_kept o1 (cell_alloc_kept o0 e9)))); have HR := Lib.hid (And.intro r0 (And.intro ge0 b0)); clear r0 ge0 b0))
  all_goals go_wp2
  all_goals go_ret
  all_goals
    obtain ⟨r0, ge0, b0⟩ := HR.out
    have hz := b0.size
    simp only [alloc_size, drewH] at hz
    refine ns_close (g := _) hn r0 ge0 (alloc_at _ _ _ ?_) ?_ ?_ ?_ ⟨⟨?_, ?_, ?_⟩, ?_, ?_, ?_⟩ (fun b r hr => ⟨⟨?_, ?_, ?_, ?_⟩, ?_⟩) ⟨?_, ?_, ?_, ?_, ?_⟩ ?_
    all_goals first
      | (simp only [alloc_size, drewH]; done)
      | (simp only [alloc_size, drewH]; omega)
      | omega
      | (have h1 := ge0 b r hr
         have h2 := r0.dom b r hr
         simp only [alloc_size, drewH] at h1
         (try simp only [alloc_size, drewH])
         omega)
      | (have h1 := ge0 b r hr
         have h2 := r0.dom b r hr
         simp only [alloc_size, drewH] at h1
         simp only [alloc_heap, alloc_size, drewH]
         repeat rw [if_neg (by omega)])
      | (simp only [alloc_heap, alloc_size, drewH]
         repeat (first | rw [if_pos rfl] | rw [if_pos trivial] | rw [if_pos (by omega)] | rw [if_neg (by omega)])
         first
           | done
           | rfl
           | (rw [b0.block _ (by (try simp only [alloc_size, drewH]); omega)]
              simp only [alloc_heap, alloc_size, drewH]
              repeat (first | rw [if_pos rfl] | rw [if_pos trivial] | rw [if_pos (by omega)] | rw [if_neg (by omega)])))
      | (repeat (first | refine Below.alloc ?_ (by (try simp only [alloc_size, drewH]); omega) _ | refine Below.drew ?_)
         refine Below.trans ?_ (b0.mono (B' := w.heap.size) (by (try simp only [alloc_size, drewH]); omega))
         repeat (first | refine Below.alloc ?_ (by (try simp only [alloc_size, drewH]); omega) _ | refine Below.drew ?_)
         exact Below.refl _ _)
end Go.Proofs.Ytjbdiobnlmhidaa
