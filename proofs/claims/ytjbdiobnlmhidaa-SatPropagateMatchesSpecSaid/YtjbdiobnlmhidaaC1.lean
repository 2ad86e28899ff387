/- Proved here: what an argument reads as. Conditions: those that each theorem states. -/
import Derived.Test.YtjbdiobnlmhidaaA5
import Derived.ProofKit
import Derived.Deep.Matrix
import Derived.Deep.Grids
set_option linter.unusedVariables false
set_option linter.unusedSimpArgs false
namespace Go.Proofs.Ytjbdiobnlmhidaa
open Go Go.RowKit Go.ChangeShapes Go.WideShapes Go.Deep

theorem cells23 : Try.prog.cellsOf 23 = 1 := by kernel_rfl
theorem cells3 : Try.prog.cellsOf 3 = 1 := by kernel_rfl
theorem cells4 : Try.prog.cellsOf 4 = 1 := by kernel_rfl

theorem add_none (b o i : Nat) : (⟨b, o, none⟩ : Addr).add i = ⟨b, o + i, none⟩ := by
  unfold Addr.add; split
  · simp [*]
  · rfl

/-- cells that can be read make a row -/
theorem rd_cells {w : World} {a : Addr} {len cap : Nat} {xs : List Value} (hx : xs.length = len) (hl : len ≤ cap) (hm : cap ≤ maxLen) (V : Nat → Value) (hc : ∀ i, i < cap → w.cell? (a.add i) = some (V i)) (hv : ∀ i, i < len → xs[i]? = some (V i)) :
    RdS w (fun _ => True) (.slice (some a) len cap) xs := by
  subst hx
  by_cases h0 : cap = 0
  · subst h0
    have e : xs = [] := List.length_eq_zero_iff.1 (by omega)
    subst e
    exact .inl ⟨⟨_, rfl⟩, rfl⟩
  · have h := hc 0 (by omega)
    obtain ⟨b, o, s⟩ := a
    have hs : s = none := by
      have := World.cell?_spot h
      cases s with
      | none => rfl
      | some k => simp [Addr.add] at this
    subst hs
    rw [add_none] at h
    refine .inr ⟨b, o, cap, rfl, hl, hm, trivial, ?_, fun i hi => ?_⟩
    · exact World.block_lt_of_cell? _ _ h
    · have := hc i (by omega)
      rw [add_none] at this
      rw [this, hv i hi]

theorem rd_ints {H : Type} {enc : TypeId × Value → H} {w : World} {held : Bool} {a : Option Addr} {len cap : Nat} {d : DataW H} {p : List MemPlace} (h : DataW.Trod enc Try.prog w 0 (fun _ => true) held 23 (.slice a len cap) d p) : ∃ l : List Int, RdS w (fun _ => True) (.slice a len cap) (ints l) := by
  obtain ⟨fuel, hf⟩ := h
  rcases open_ints Try.underlying23 Try.underlying3 cells3 hf with ⟨hcs, _⟩ | ⟨x, l, c, zs, hcs, _, hl, hm, hz, _, hcell, _⟩
  · simp [Value.cells] at hcs
    obtain ⟨rfl, rfl, rfl⟩ := hcs
    exact ⟨[], .inl ⟨⟨_, rfl⟩, rfl⟩⟩
  · simp [Value.cells] at hcs
    obtain ⟨rfl, rfl, rfl⟩ := hcs
    simp only [if_true] at hz
    refine ⟨zs.take len, rd_cells (by simp; omega) hl hm (fun i => .int .i64 (zs.getD i 0)) (fun i hi => hcell i (by omega)) fun i hi => ?_⟩
    rw [ints_get (by simp; omega)]
    simp [List.getD_eq_getElem?_getD, List.getElem?_take, hi]

theorem rd_bools {H : Type} {enc : TypeId × Value → H} {w : World} {held : Bool} {a : Option Addr} {len cap : Nat} {d : DataW H} {p : List MemPlace} (h : DataW.Trod enc Try.prog w 0 (fun _ => true) held 36 (.slice a len cap) d p) : ∃ l : List Bool, RdS w (fun _ => True) (.slice a len cap) (boos l) := by
  obtain ⟨fuel, hf⟩ := h
  rcases open_bools Try.underlying36 Try.underlying4 cells4 hf with ⟨hcs, _⟩ | ⟨x, l, c, Z, hcs, _, hl, hm, _, hcell⟩
  · simp [Value.cells] at hcs
    obtain ⟨rfl, rfl, rfl⟩ := hcs
    exact ⟨[], .inl ⟨⟨_, rfl⟩, rfl⟩⟩
  · simp [Value.cells] at hcs
    obtain ⟨rfl, rfl, rfl⟩ := hcs
    refine ⟨(List.range len).map Z, rd_cells (by simp [boos]) hl hm (fun i => .bool (Z i)) hcell fun i hi => ?_⟩
    simp [boos, hi]

theorem rd_rows {H : Type} {enc : TypeId × Value → H} {w : World} {held : Bool} {a : Option Addr} {len cap : Nat} {d : DataW H} {p : List MemPlace} (h : DataW.Trod enc Try.prog w 0 (fun _ => true) held 22 (.slice a len cap) d p) : ∃ S : List (List Int), RdSS w (fun _ => True) (.slice a len cap) S := by
  obtain ⟨fuel, hf⟩ := h
  rcases open_int_rows Try.underlying22 Try.underlying23 Try.underlying3 cells23 cells3 hf with ⟨hcs, _⟩ | ⟨x, l, c, A, L, C, Z, hcs, _, hl, hm, _, hrows⟩
  · simp [Value.cells] at hcs
    obtain ⟨rfl, rfl, rfl⟩ := hcs
    exact ⟨[], [], .inl ⟨⟨_, rfl⟩, rfl⟩, rfl, nofun⟩
  · simp [Value.cells] at hcs
    obtain ⟨rfl, rfl, rfl⟩ := hcs
    refine ⟨(List.range len).map fun r => (Z r).take (L r), (List.range len).map fun r => .slice (A r) (L r) (C r), ?_, by simp, fun i hi => ?_⟩
    · refine rd_cells (by simp) hl hm (fun r => .slice (A r) (L r) (C r)) (fun r hr => (hrows r hr).1) fun i hi => ?_
      simp [hi]
    · have hi' : i < len := by simpa using hi
      obtain ⟨_, r1, r2, r3, _, r4, r5⟩ := hrows i (by omega)
      have e1 : ((List.range len).map fun r => Value.slice (A r) (L r) (C r)).getD i undef = .slice (A i) (L i) (C i) := by simp [List.getD_eq_getElem?_getD, hi']
      have e2 : ((List.range len).map fun r => (Z r).take (L r)).getD i [] = (Z i).take (L i) := by simp [List.getD_eq_getElem?_getD, hi']
      rw [e1, e2]
      rcases ha : A i with _ | a'
      · have hc0 := r4 ha
        have hl0 : L i = 0 := by omega
        rw [hl0, hc0]
        exact .inl ⟨⟨_, rfl⟩, by simp [ints]⟩
      · refine rd_cells (by simp; omega) r1 r2 (fun i' => .int .i64 ((Z i).getD i' 0)) (fun c hc => (r5 a' ha).2 c hc) fun j hj => ?_
        rw [ints_get (by simp; omega)]
        simp [List.getD_eq_getElem?_getD, List.getElem?_take, hj]
end Go.Proofs.Ytjbdiobnlmhidaa
