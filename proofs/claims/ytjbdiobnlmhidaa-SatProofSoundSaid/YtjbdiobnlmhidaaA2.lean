/- Proved here: the first methods of the propagator do what the plain propagator does. Conditions: those that each theorem states. -/
import Derived.Test.YtjbdiobnlmhidaaA1
set_option linter.unusedVariables false
set_option linter.unusedSimpArgs false
namespace Go.Proofs.Ytjbdiobnlmhidaa
open Go Go.RowKit


/-- the world behind what has been walked is taken for any that meets S -/
theorem cutW {P : Program} {c : Code} {Q : Exit → Act → World → Prop} {a : Act} {W : World} (S : World → Prop) (hS : S W) (h : ∀ w1, S w1 → c.wp P Q a w1) : c.wp P Q a W := h W hS

abbrev PRole : Role → Prop := fun r => r.1 < 9

/-- the call ends with v, and the propagator has the state p -/
def PPost (R : Roles) (w : World) (g T : Nat) (ext : List Value) (p : PS) (v : Value) (e : Ending) (w' : World) : Prop :=
  e = .returned v ∧ ∃ R' u', Rep R' w' g T ext u' p ∧ Chg PRole R w R' w'

/-- the same, and the slice values meet U -/
def PPostU (U : PV → Prop) (R : Roles) (w : World) (g T : Nat) (ext : List Value) (p : PS) (v : Value) (e : Ending) (w' : World) : Prop :=
  e = .returned v ∧ ∃ R' u', Rep R' w' g T ext u' p ∧ Chg PRole R w R' w' ∧ U u'

theorem ret_int {k : IntKind} {a b : Int} (h : a = b) : Ending.returned (.int k a) = .returned (.int k b) := by rw [h]

theorem magnitude_calls (l : Int) (w : World) (h0 : -1000000000000000 ≤ l) (h1 : l ≤ 1000000000000000) :
    Calls Try.prog 71 #[.int .i64 l] w fun e w' => e = .returned (.int .i64 (l.natAbs : Int)) ∧ w = w' := by
  go_enter Try.func71, Try.ntmps71
  go_wp2
  all_goals go_ret
  all_goals exact ⟨ret_int (by omega), rfl⟩

theorem mag_still (l : Int) (w : World) (h0 : -1000000000000000 ≤ l) (h1 : l ≤ 1000000000000000) :
    Calls Try.prog 71 #[.int .i64 l] w fun e w' => e = .returned (.int .i64 (l.natAbs : Int)) ∧ w' = w :=
  (magnitude_calls l w h0 h1).mono fun _ _ h => ⟨h.1, h.2.symm⟩

theorem truth_calls {R : Roles} {w : World} {g T : Nat} {ext : List Value} {u : PV} {p : PS} (h : Rep R w g T ext u p) (l : Int) (hl : l.natAbs < p.val.length) (hv : -1 ≤ p.val.getD l.natAbs 0 ∧ p.val.getD l.natAbs 0 ≤ 1) :
    Calls Try.prog 61 #[.pointer (some ⟨g, 0, none⟩), .int .i64 l] w fun e w' => e = .returned (.int .i8 (p.truth l)) ∧ w = w' := by
  obtain ⟨b, c, hb, h1, h2, -, -, hcell, -⟩ := h.val.cell (i := l.natAbs) (by simpa using hl)
  rw [i8s_get hl] at hcell
  have h4 := h.cells.2.2.2.2.1
  rw [hb] at h4
  have ht : p.truth l = if l < 0 then -(p.val.getD l.natAbs 0) else p.val.getD l.natAbs 0 := rfl
  generalize p.truth l = t at ht
  generalize p.val.getD l.natAbs 0 = x at *
  simp only [i8s_length] at h4 h1
  unfold maxLen at h2
  clear h hb
  by_cases hs : l < 0
  · rw [if_pos hs] at ht
    subst ht
    obtain ⟨k, rfl⟩ : ∃ k : Nat, l = -(k : Int) := ⟨l.natAbs, by omega⟩
    have hk : (-(k : Int)).natAbs = k := by omega
    rw [hk] at hl hcell
    go_enter Try.func61, Try.ntmps61
    go_wp2
    go_ret
    exact ⟨rfl, rfl⟩
  · rw [if_neg hs] at ht
    subst ht
    obtain ⟨k, rfl⟩ : ∃ k : Nat, l = (k : Int) := ⟨l.natAbs, by omega⟩
    have hk : ((k : Int)).natAbs = k := by omega
    rw [hk] at hl hcell
    go_enter Try.func61, Try.ntmps61
    go_wp2
    go_ret
    exact ⟨rfl, rfl⟩

set_option maxHeartbeats 4000000 in
theorem set_calls {R : Roles} {w : World} {g T : Nat} {ext : List Value} {u : PV} {p : PS} (h : Rep R w g T ext u p) (l why : Int) (hl : l.natAbs < p.val.length) (hr : l.natAbs < p.rea.length) (hn : p.val.length ≤ 1000000000) (ht : p.tra.length < 1000000000) :
    Calls Try.prog 68 #[.pointer (some ⟨g, 0, none⟩), .int .i64 l, .int .i64 why] w (PPostU (fun u' => u' = { u with tra := u'.tra }) R w g T ext (p.set l why) (.tuple #[])) := by
  obtain ⟨b, c, h4, hcell, hfz, E, hR⟩ := h.atVal hl
  go_enter Try.func68, Try.ntmps68
  go_wp2_with fail
  go_still_tail 6, (by kernel_rfl)
  still_call (mag_still _ _ (by omega) (by omega))
  refine wpStill_nil ?_
  go_upto_region 1 with (fail)
  refine cutW (fun w1 => Rep R w1 g T ext u { p with val := p.val.set l.natAbs 1 } ∧ Chg PRole R w R w1) ⟨(h.setVal E.out hR.out hl 1).drew, ((Chg.setCell w h.dom hR.out _ _ _).mono (by simp)).drew⟩ ?_
  rintro w1 ⟨q1, k1⟩
  clear h4 hcell hfz h E hR
  obtain ⟨b1, c1, h4, hcell, hfz, E, hR⟩ := q1.atVal (i := l.natAbs) (by simpa using hl)
  simp only [List.length_set] at h4 E
  by_cases hs : l < 0
  case' pos =>
    rw [show l.natAbs = (-l).toNat from by omega] at hcell hfz
    go_upto_region 3 with (fail)
    refine cutW (fun w1 => Rep R w1 g T ext u { p with val := p.val.set l.natAbs (if l < 0 then -1 else 1) } ∧ Chg PRole R w R w1) ⟨?_, (k1.trans ((Chg.setCell _ q1.dom hR.out _ _ _).mono (by simp)))⟩ ?_
    · have := q1.setVal (i := l.natAbs) E.out hR.out (by simpa using hl) (-1)
      rw [show (-l).toNat = l.natAbs from by omega]
      simpa [hs] using this
  case' neg =>
    go_upto_region 3 with (fail)
    refine cutW (fun w1 => Rep R w1 g T ext u { p with val := p.val.set l.natAbs (if l < 0 then -1 else 1) } ∧ Chg PRole R w R w1) ⟨by simpa [hs] using q1, k1⟩ ?_
  all_goals
    clear q1 k1 h4 hcell hfz E hR w1
    rintro w1 ⟨q1, k1⟩
    obtain ⟨b1, c1, h4, hcell, hfz, E, hR⟩ := q1.atRea (i := l.natAbs) hr
    go_still_tail 7, (by kernel_rfl)
    still_call (mag_still _ _ (by omega) (by omega))
    repeat still_step
    refine wpStill_nil ?_
    go_upto_region 4 with (fail)
    refine cutW (fun w1 => Rep R w1 g T ext u { p with val := p.val.set l.natAbs (if l < 0 then -1 else 1), rea := p.rea.set l.natAbs why } ∧ Chg PRole R w R w1) ⟨(q1.setRea E.out hR.out hr why).drew, (k1.trans ((Chg.setCell _ q1.dom hR.out _ _ _).mono (by simp))).drew⟩ ?_
    clear q1 k1 h4 hcell hfz E hR w1
    rintro w1 ⟨q1, k1⟩
    have h6 := q1.cells.2.2.2.2.2.2.1
    have f6 := q1.free 6
    go_wp2_with (at_builtin; refine wpList_app Try.underlying23 info3 rfl rfl _ _ rfl _ _ rfl (q1.alloc _).tra (q1.alloc _).dom _ 1 1 [.int .i64 l] rfl rfl (cell_one_new _ _ _) (by simp [Value.oneCell']) (by omega) (by simp; omega) ?_)
    rintro a4 n4 c4 w4 R4 ho k4 hd4 -
    obtain ⟨g6, gf⟩ := (q1.alloc _).gkept k4 (by simp) 6
    rw [(q1.alloc _).cells.2.2.2.2.2.2.1] at g6
    rw [show [Value.int .i64 l] = ints [l] from rfl, ints_append] at ho
    have q4 := (q1.alloc _).putTra k4 hd4 ho
    have k5 := ((k1.trans (Chg.alloc PRole w1 q1.dom (.cells #[Value.int .i64 l] 3))).trans (k4.mono (by simp))).cellG hd4 ((k4.old g (q1.alloc _).glt).trans q1.rg) (by simp) 6 (.slice a4 n4 c4)
    clear q1 k1 k4 ho hd4 h6 f6
    have Q := Lib.hid (And.intro q4 k5)
    clear q4 k5
    go_wp2
    go_end0
    exact ⟨rfl, R4, _, Q.out.1, Q.out.2, rfl⟩
end Go.Proofs.Ytjbdiobnlmhidaa
namespace Go.Proofs.Ytjbdiobnlmhidaa
open Go Go.RowKit

theorem zeroed_snoc (v t : List Int) (l : Int) : PS.zeroed v (t ++ [l]) = (PS.zeroed v t).set l.natAbs 0 := by simp [PS.zeroed]
theorem zeroed_length (t : List Int) : ∀ v : List Int, (PS.zeroed v t).length = v.length := by
  induction t with
  | nil => intro v; rfl
  | cons a t ih => intro v; simp only [PS.zeroed, List.foldl_cons] at *; rw [ih]; simp
theorem take_snocD (l : List Int) (i : Nat) (h : i < l.length) : l.take (i + 1) = l.take i ++ [l.getD i 0] := by
  rw [List.take_succ_eq_append_getElem h]; simp [h]

set_option maxHeartbeats 4000000 in
theorem reset_calls {R : Roles} {w : World} {g T : Nat} {ext : List Value} {u : PV} {p : PS} (h : Rep R w g T ext u p) (hl : ∀ l ∈ p.tra, l.natAbs < p.val.length) (hn : p.val.length ≤ 1000000000) (ht : p.tra.length < 1000000000) :
    Calls Try.prog 67 #[.pointer (some ⟨g, 0, none⟩)] w (PPost R w g T ext p.reset (.tuple #[])) := by
  obtain ⟨a, c, ha, hc1, hc2, -, -⟩ := h.tra.form
  rw [ints_length] at ha hc1
  have h6 := h.cells.2.2.2.2.2.2.1
  rw [ha] at h6
  have H := Lib.hid h
  have HA := Lib.hid ha
  clear h ha
  go_enter Try.func67, Try.ntmps67
  go_wp2_with fail
  go_loopg [9] p.tra.length (fun kq v9 w' => ∃ i : Nat, v9 = .int .i64 i ∧ i + kq = p.tra.length ∧ Rep R w' g T ext u { p with val := PS.zeroed p.val (p.tra.take i) } ∧ Chg PRole R w R w')
  case atStart => exact ⟨0, rfl, by omega, by simpa [PS.zeroed] using H.out, Chg.refl _ _ _ H.out.dom⟩
  case round =>
    obtain ⟨i, rfl, hi, q1, k1⟩ := hrel
    clear h6
    by_cases hlt : i < p.tra.length
    · obtain ⟨b, c', h6, hcell, -, E, -⟩ := q1.atTra (i := i) hlt
      have hl' := hl _ (List.getElem_mem hlt)
      rw [show p.tra[i] = p.tra.getD i 0 from by simp [hlt]] at hl'
      generalize hx : p.tra.getD i 0 = l at *
      have HX := Lib.hid hx
      clear hx hl
      have eA := HA.out.symm.trans E.out
      cases eA
      have h4l : l.natAbs < (PS.zeroed p.val (p.tra.take i)).length := by rw [zeroed_length]; exact hl'
      obtain ⟨vb, vc, h4, vcell, vf, VE, vR⟩ := q1.atVal (i := l.natAbs) h4l
      simp only [zeroed_length] at h4 VE
      go_upto_region 3 with (fail)
      go_still_tail 6, (by kernel_rfl)
      still_call (mag_still _ _ (by omega) (by omega))
      refine wpStill_nil ?_
      go_upto_region 4 with (fail)
      refine cutW (fun w1 => Rep R w1 g T ext u { p with val := PS.zeroed p.val (p.tra.take (i + 1)) } ∧ Chg PRole R w R w1) ⟨?_, (k1.cellG q1.dom vR.out (by simp) _ _).drew⟩ ?_
      · have := (q1.setVal VE.out vR.out h4l 0).drew
        rw [take_snocD _ _ hlt, zeroed_snoc, HX.out]
        exact this
      rintro w1 ⟨q2, k2⟩
      clear q1 k1 h4 vcell vf VE vR h6 hcell E
      go_wp2
      go_roundg (gk - 1)
      case measure => omega
      case rel => exact ⟨i + 1, by go_num, by omega, q2, k2⟩
    · obtain rfl : i = p.tra.length := by omega
      have h6 := q1.cells.2.2.2.2.2.2.1
      rw [HA.out] at h6
      have h7 := q1.cells.2.2.2.2.2.2.2.1
      have h8 := q1.cells.2.2.2.2.2.2.2.2.1
      have h9 := q1.cells.2.2.2.2.2.2.2.2.2
      have f6 := q1.free 6
      have f7 := q1.free 7
      have f8 := q1.free 8
      have f9 := q1.free 9
      have ot := q1.tra
      simp only [HA.out] at ot
      have ot0 := ot.take 0 (Nat.zero_le _)
      rw [List.take_zero] at ot0
      have q2 := (((q1.putTra (t := []) (Chg.refl _ _ _ q1.dom) q1.dom ot0).putHead 0).putFal (-1)).putClash 0
      have k2 := ((((k1.cellG q1.dom q1.rg (by simp) 6 (.slice a 0 c)).cellG (q1.dom.setCell _ _) q1.rg (by simp) 7 (.int .i64 0)).cellG ((q1.dom.setCell _ _).setCell _ _) q1.rg (by simp) 8 (.int .i64 (-1)))).cellG (((q1.dom.setCell _ _).setCell _ _).setCell _ _) q1.rg (by simp) 9 (.int .i64 0)
      have Q := Lib.hid (And.intro q2 k2)
      clear q2 k2 ot ot0 q1 k1
      go_wp2
      go_end0
      exact ⟨rfl, R, _, by simpa [PS.reset] using Q.out.1, Q.out.2⟩
end Go.Proofs.Ytjbdiobnlmhidaa
namespace Go.Proofs.Ytjbdiobnlmhidaa
open Go Go.RowKit

theorem distinctGo_len (r : List Int) : ∀ out, (distinctGo r out).length ≤ out.length + r.length := by
  induction r with
  | nil => intro out; simp [distinctGo]
  | cons a r ih =>
    intro out
    simp only [distinctGo]
    split
    · have := ih out; simp only [List.length_cons]; omega
    · have := ih (out ++ [a]); simp at this ⊢; omega

set_option maxHeartbeats 4000000 in
theorem distinct_calls {w : World} {B : Nat → Prop} {v : Value} {l : List Int} (h : RdS w B v (ints l)) (hn : l.length ≤ 1000000000) :
    Calls Try.prog 57 #[v] w (NewPost w 3 (ints (distinct l))) := by
  obtain ⟨a, c, rfl, h1, h2⟩ := h.form
  rw [ints_length] at *
  have H := Lib.hid h
  clear h
  go_enter Try.func57, Try.ntmps57
  go_wp2_with fail
  go_loopg [11, 3] l.length (fun kq v11 v3 w' => ∃ (i : Nat) (out : List Int) (oa : Option Addr) (oc : Nat), v11 = .int .i64 i ∧ i + kq = l.length ∧ v3 = .slice oa out.length oc ∧ w'.ownsRow w.heap.size 3 1 (.slice oa out.length oc) (ints out).length (ints out) ∧ distinctGo (l.drop i) out = distinct l ∧ out.length ≤ i ∧ Below w.heap.size w w')
  case atStart => exact ⟨0, [], none, 0, rfl, by omega, rfl, World.ownsRow_nil _ _ _ _, rfl, by simp, Below.refl _ _⟩
  case round =>
    obtain ⟨i, out, oa, oc, rfl, hi, rfl, ho, hd, hol, hb⟩ := hrel
    have HO := Lib.hid ho
    have HD := Lib.hid hd
    clear ho hd
    by_cases hlt : i < l.length
    · obtain ⟨b, o, rfl, hcell, -, -⟩ := (H.out.below hb).at hlt
      generalize hx : l.getD i 0 = x at *
      have HX := Lib.hid hx
      clear hx
      obtain ⟨wo, rfl⟩ : ∃ wo : World, wo = wr := ⟨_, rfl⟩
      obtain ⟨ko, rfl⟩ : ∃ ko : Nat, ko = gk := ⟨_, rfl⟩
      go_wp2_with fail
      go_loopg [17, 6] out.length (fun kq v17 v6 w' => ∃ (j : Nat), v17 = .int .i64 j ∧ j + kq = out.length ∧ v6 = .bool (decide (x ∈ out.take j)) ∧ w' = wo)
      case atStart => exact ⟨0, rfl, by omega, by simp, rfl⟩
      case round =>
        obtain ⟨j, rfl, hj, rfl, rfl⟩ := hrel
        by_cases hlt2 : j < out.length
        · obtain ⟨b2, o2, rfl, hcell2, -, -⟩ := (RdS.of_row HO.out).at hlt2
          have hmem : decide (x ∈ out.take (j + 1)) = (decide (x ∈ out.take j) || (out.getD j 0 == x)) := by
            rw [take_snocD _ _ hlt2, Bool.eq_iff_iff]
            simp
            constructor <;> rintro (h | h) <;> simp [h]
          have HM := Lib.hid hmem
          clear hmem
          generalize hk : decide (x ∈ out.take j) = kn at *
          have HK := Lib.hid hk
          clear hk
          cases kn
          · go_wp2
            go_roundg (gk - 1)
            case measure => omega
            case rel => exact ⟨j + 1, by go_num, by omega, by rw [HM.out]; simp [hlt2], rfl⟩
          · go_wp2
            go_roundg (gk - 1)
            case measure => omega
            case rel => exact ⟨j + 1, by go_num, by omega, by rw [HM.out]; simp [hlt2], rfl⟩
        · obtain rfl : j = out.length := by omega
          rw [List.take_length]
          have hdd : l.drop i = x :: l.drop (i + 1) := by
            rw [List.drop_eq_getElem_cons hlt, ← HX.out]; simp [hlt]
          by_cases hin : x ∈ out
          · have hnext : distinctGo (l.drop (i + 1)) out = distinct l := by
              rw [← HD.out, hdd]; simp [distinctGo, hin]
            have HN := Lib.hid hnext
            have ei : decide (x ∈ out) = true := by simp [hin]
            rw [ei]
            clear hnext hdd hin ei
            go_wp2
            go_roundg (ko - 1)
            case measure => omega
            case rel => exact ⟨i + 1, out, oa, oc, by go_num, by omega, rfl, HO.out, HN.out, by omega, hb⟩
          · have hnext : distinctGo (l.drop (i + 1)) (out ++ [x]) = distinct l := by
              rw [← HD.out, hdd]; simp [distinctGo, hin]
            have HN := Lib.hid hnext
            have ei : decide (x ∈ out) = false := by simp [hin]
            rw [ei]
            clear hnext hdd hin ei
            have ho2 := World.ownsRow.alloc HO.out (.cells #[Value.int .i64 x] 3)
            go_wp2_with (at_builtin; refine wpList_app_new Try.underlying23 info3 rfl rfl _ _ rfl _ _ rfl ho2 (hb.alloc hb.size _) _ 1 1 [.int .i64 x] rfl rfl (cell_one_new _ _ _) (by simp [Value.oneCell']) (by omega) (by simp; omega) ?_)
            rintro a4 n4 c4 w4 ho4 hb4 - - rfl
            go_wp2
            go_roundg (ko - 1)
            case measure => omega
            case rel => exact ⟨i + 1, out ++ [x], a4, c4, by go_num, by omega, by simp, by rw [show [Value.int .i64 x] = ints [x] from rfl, ints_append] at ho4; simpa using ho4, HN.out, by simp; omega, hb4⟩
    · obtain rfl : i = l.length := by omega
      go_wp2
      go_ret
      have e : distinct l = out := by rw [← HD.out]; simp [distinctGo]
      exact ⟨oa, _, oc, rfl, by rw [e]; exact HO.out, hb⟩
end Go.Proofs.Ytjbdiobnlmhidaa
namespace Go.Proofs.Ytjbdiobnlmhidaa
open Go Go.RowKit

theorem distinctGo_mem (r : List Int) : ∀ out x, x ∈ distinctGo r out → x ∈ out ∨ x ∈ r := by
  induction r with
  | nil => intro out x h; exact .inl h
  | cons a r ih =>
    intro out x h
    simp only [distinctGo] at h
    split at h
    · rcases ih _ _ h with h | h
      · exact .inl h
      · exact .inr (List.mem_cons_of_mem _ h)
    · rcases ih _ _ h with h | h
      · rcases List.mem_append.1 h with h | h
        · exact .inl h
        · simp at h; subst h; exact .inr (List.mem_cons_self ..)
      · exact .inr (List.mem_cons_of_mem _ h)
theorem mem_distinct {l : List Int} {x : Int} (h : x ∈ distinct l) : x ∈ l := by
  rcases distinctGo_mem l [] x h with h | h
  · cases h
  · exact h

/-- the state after i of the first two literals have been given a watch -/
def addSt (q : PS) (d : List Int) (k : Int) (i : Nat) : PS :=
  if i = 0 then q else if i = 1 then q.addWatch (d.getD 0 0) k else (q.addWatch (d.getD 0 0) k).addWatch (d.getD 1 0) k
theorem addSt_succ (q : PS) (d : List Int) (k : Int) (i : Nat) (hi : i < 2) : (addSt q d k i).addWatch (d.getD i 0) k = addSt q d k (i + 1) := by
  match i, hi with
  | 0, _ => rfl
  | 1, _ => rfl
theorem addSt_same (q : PS) (d : List Int) (k : Int) (i : Nat) : (addSt q d k i).cls = q.cls ∧ (addSt q d k i).n = q.n ∧ (addSt q d k i).wat.length = q.wat.length := by
  unfold addSt
  split
  · exact ⟨rfl, rfl, rfl⟩
  · split <;> simp [PS.addWatch, PS.putWatch]

theorem addWatch_rows (q : PS) (x k : Int) (j : Nat) : ((q.addWatch x k).wat.getD j []).length ≤ (q.wat.getD j []).length + 1 := by
  simp only [PS.addWatch, PS.putWatch, PS.watch, getD_set]
  split
  · rename_i h; rw [h.1]; simp
  · omega
theorem addSt_rows (q : PS) (d : List Int) (k : Int) (i j : Nat) : ((addSt q d k i).wat.getD j []).length ≤ (q.wat.getD j []).length + i := by
  unfold addSt
  split
  · omega
  · split
    · have := addWatch_rows q (d.getD 0 0) k j; omega
    · have := addWatch_rows q (d.getD 0 0) k j
      have := addWatch_rows (q.addWatch (d.getD 0 0) k) (d.getD 1 0) k j
      omega

set_option maxHeartbeats 8000000 in
theorem add_calls {R : Roles} {w : World} {g T : Nat} {ext : List Value} {u : PV} {p : PS} (h : Rep R w g T ext u p) {B : Nat → Prop} {v : Value} {l : List Int} (hv : RdS w B v (ints l)) (hn : l.length ≤ 1000000000)
    (hc : p.cls.length < 1000000000) (hu : p.uni.length < 1000000000) (hw : ∀ x ∈ l, 0 ≤ p.n + x ∧ p.n + x < p.wat.length) (hwn : p.wat.length ≤ 1000000000) (hwl : ∀ r ∈ p.wat, r.length < 1000000000) :
    Calls Try.prog 45 #[.pointer (some ⟨g, 0, none⟩), v] w (PPost R w g T ext (p.add l) (.tuple #[])) := by
  obtain ⟨ca, cc, hcf, hc1, hc2, -, -⟩ := h.cls.form
  rw [h.clen] at hcf hc1
  have h0 := h.cells.1
  rw [hcf] at h0
  have hd0 : w.drew.cell? ⟨g, 0, none⟩ = some (.slice ca p.cls.length cc) := h0
  go_enter Try.func45, Try.ntmps45
  go_wp2_with fail
  go_region_held3 (fun w' => w'.cell? ⟨g, 0, none⟩ = some (.slice ca p.cls.length cc)) (first | assumption | simp [*]) ((go_at_call 57; refine (distinct_calls (hv.below (Below.refl _ _).drew) hn).mono ?_; rintro e w1 ⟨a1, n1, c1, rfl, ho1, hb1⟩; have hx1 : w1.cell? ⟨g, 0, none⟩ = some (.slice ca p.cls.length cc) := (World.cell?_of_block (w := w.drew) (hb1.block g h.glt)).trans hd0))
  go_upto_region 1 with (fail)
  refine cutW (fun w1 => ∃ R1, Rep R1 w1 g T ext u p ∧ OwnS R1 w1 (2, p.cls.length) 3 (.slice a1 n1 c1) (ints (distinct l)) ∧ Chg PRole R w R1 w1) ?_ ?_
  · have k0 : Chg (· = (2, p.cls.length)) R w R w1 := Below.toChg h.dom ((Below.refl _ _).drew.trans hb1) _
    obtain ⟨R1, o1, k1, d1⟩ := OwnS.tag (S := (· = (2, p.cls.length))) (r := (2, p.cls.length)) rfl h.dom k0 ho1
    exact ⟨R1, h.tagCrow (Nat.le_refl _) k1 d1, o1, k1.mono (by simp)⟩
  clear hx1 ho1 hb1 h0 hd0
  rintro w1 ⟨R1, q1, o1, k1⟩
  obtain ⟨a', c', e1, le1, le2, -⟩ := o1.form
  simp only [ints_length, Value.slice.injEq] at e1 le1
  obtain ⟨rfl, rfl, rfl⟩ := e1
  have h0 := q1.cells.1
  rw [hcf] at h0
  have qc := (q1.alloc (.cells #[Value.slice a1 (distinct l).length c1] 23)).cls
  rw [hcf] at qc
  go_wp2_with (at_builtin; refine wpList_app Try.underlying22 info23 rfl rfl _ _ rfl _ _ rfl qc (q1.alloc _).dom _ 1 1 [Value.slice a1 (distinct l).length c1] rfl rfl (cell_one_new _ _ _) (by simp [Value.oneCell']) (by omega) (by rw [q1.clen]; omega) ?_)
  rintro a4 n4 c4 w4 R4 ho k4 hd4 rfl
  obtain ⟨g0, gf⟩ := (q1.alloc _).gkept k4 (by simp) 0
  rw [(q1.alloc _).cells.1] at g0
  have hrows : ∀ i, i < (p.cls ++ [distinct l]).length → OwnS R4 w4 (2, i) 3 ((u.crow ++ [Value.slice a1 (distinct l).length c1]).getD i undef) (ints ((p.cls ++ [distinct l]).getD i [])) := by
    intro i hi
    rw [getD_snoc, getD_snoc, q1.clen]
    by_cases e : i < p.cls.length
    · rw [if_pos e, if_pos e]
      exact ((q1.alloc _).crow i e).chg k4 (by simp)
    · have e2 : i = p.cls.length := by simp at hi; omega
      subst e2
      rw [if_neg e, if_neg e, if_pos rfl, if_pos rfl]
      exact (o1.chg (Chg.alloc (· = (1, 0)) w1 q1.dom _) (by simp)).chg k4 (by simp)
  have q4 := (q1.alloc _).putCls (t := p.cls ++ [distinct l]) k4 (fun i j _ hi _ e => by cases e; omega) hd4 ho (by simp [q1.clen]) hrows
  have k5 := ((k1.trans (Chg.alloc PRole w1 q1.dom (.cells #[Value.slice a1 (distinct l).length c1] 23))).trans (k4.mono (by simp))).cellG hd4 ((k4.old g (q1.alloc _).glt).trans q1.rg) (by simp) 0 (.slice a4 (u.crow.length + 1) c4)
  have Q := Lib.hid (And.intro q4 k5)
  clear q4 k5 hrows k4 ho hd4 qc h0 o1 k1
  have ECL := Lib.hid q1.clen
  go_upto_region 2 with (fail)
  refine cutW (fun w2 => ∃ R2, Rep R2 w2 g T ext { u with cls := .slice a4 (u.crow.length + 1) c4, crow := u.crow ++ [.slice a1 (distinct l).length c1] } { p with cls := p.cls ++ [distinct l] } ∧ Chg PRole R w R2 w2) ⟨R4, Q.out.1, Q.out.2⟩ ?_
  clear Q g0 gf q1 h
  rintro w2 ⟨R2, q2, k2⟩
  obtain ⟨uv, hUv⟩ : ∃ uv : PV, uv = { u with cls := .slice a4 (u.crow.length + 1) c4, crow := u.crow ++ [.slice a1 (distinct l).length c1] } := ⟨_, rfl⟩
  have eu : uv.crow.getD p.cls.length undef = .slice a1 (distinct l).length c1 := by
    rw [hUv]; simp only; rw [getD_snoc, ECL.out, if_neg (by omega), if_pos rfl]
  rw [← hUv] at q2
  have EU := Lib.hid eu
  clear eu hUv hcf
  by_cases hs : (distinct l).length < 2
  · have eqp : p.add l = { p with cls := p.cls ++ [distinct l], uni := p.uni ++ [(p.cls.length : Int)] } := by simp [PS.add, hs]
    have EP := Lib.hid eqp
    clear eqp
    have h1 := q2.cells.2.1
    have f1 := q2.free 1
    go_wp2_with (at_builtin; refine wpList_app Try.underlying23 info3 rfl rfl _ _ rfl _ _ rfl (q2.alloc _).uni (q2.alloc _).dom _ 1 1 [.int .i64 p.cls.length] rfl rfl (cell_one_new _ _ _) (by simp [Value.oneCell']) (by omega) (by simp; omega) ?_)
    rintro a5 n5 c5 w5 R5 ho k5 hd5 -
    obtain ⟨g1, gf⟩ := (q2.alloc _).gkept k5 (by simp) 1
    rw [(q2.alloc _).cells.2.1] at g1
    rw [show [Value.int .i64 (p.cls.length : Int)] = ints [(p.cls.length : Int)] from rfl, ints_append] at ho
    have q5 := (q2.alloc _).putUni k5 hd5 ho
    have k6 := ((k2.trans (Chg.alloc PRole w2 q2.dom (.cells #[Value.int .i64 (p.cls.length : Int)] 3))).trans (k5.mono (by simp))).cellG hd5 ((k5.old g (q2.alloc _).glt).trans q2.rg) (by simp) 1 (.slice a5 n5 c5)
    have Q := Lib.hid (And.intro q5 k6)
    clear q5 k6 k5 ho hd5 h1 f1 q2 k2
    go_wp2
    go_end0
    exact ⟨rfl, R5, _, by rw [EP.out]; exact Q.out.1, Q.out.2⟩
  · have hl2 : 2 ≤ (distinct l).length := by omega
    have hcap : 2 ≤ c1 := by omega
    unfold maxLen at le2
    have EP := Lib.hid (show p.add l = addSt { p with cls := p.cls ++ [distinct l] } (distinct l) p.cls.length 2 from by simp [PS.add, hs, addSt])
    have hx : ∀ i, i < 2 → 0 ≤ p.n + (distinct l).getD i 0 ∧ p.n + (distinct l).getD i 0 < p.wat.length := fun i hi => hw _ (mem_distinct (getD_mem (by omega)))
    have HX := Lib.hid hx
    clear hx hs
    go_wp2_with fail
    go_loopg [41] 2 (fun kq v41 w' => ∃ (i : Nat) (R3 : Roles) (u3 : PV), v41 = .int .i64 i ∧ i + kq = 2 ∧ Rep R3 w' g T ext u3 (addSt { p with cls := p.cls ++ [distinct l] } (distinct l) p.cls.length i) ∧ Hid (u3.crow.getD p.cls.length undef = .slice a1 (distinct l).length c1) ∧ Chg PRole R w R3 w')
    case atStart => exact ⟨0, R2, uv, rfl, rfl, q2, EU, k2⟩
    case round =>
      obtain ⟨i, R3, u3, rfl, hi, q3, E3, k3⟩ := hrel
      by_cases hlt : i < 2
      · obtain ⟨ecl, en, ewl⟩ := addSt_same { p with cls := p.cls ++ [distinct l] } (distinct l) (p.cls.length : Int) i
        have hnx := addSt_succ { p with cls := p.cls ++ [distinct l] } (distinct l) (p.cls.length : Int) i hlt
        have hxx := HX.out i hlt
        simp only at ecl en ewl
        generalize hq : addSt { p with cls := p.cls ++ [distinct l] } (distinct l) (p.cls.length : Int) i = q at *
        have hk : p.cls.length < q.cls.length := by rw [ecl]; simp
        have hdk : q.cls.getD p.cls.length [] = distinct l := by rw [ecl, getD_snoc]; simp
        obtain ⟨da, dc, hda, hdl, -, hdi⟩ := q3.atCrow hk
        rw [hdk] at hda hdl hdi
        have eda := E3.out.symm.trans hda
        simp only [Value.slice.injEq, true_and] at eda
        obtain ⟨rfl, rfl⟩ := eda
        obtain ⟨db, rfl, dcell, -, -⟩ := hdi i (by omega)
        clear hdi hda hdl
        generalize hxe : (distinct l).getD i 0 = x at *
        obtain ⟨j, hj⟩ : ∃ j : Nat, p.n + x = j := ⟨(p.n + x).toNat, by omega⟩
        have hjl : j < q.wat.length := by rw [ewl]; omega
        have hrow : q.row x = j := by simp [PS.row, en, hj]
        obtain ⟨wb, wc, h2, wcell, wf, WE, WR⟩ := q3.atWat hjl
        have h3 := q3.cells.2.2.2.1
        rw [en] at h3
        rw [ewl] at h2 WE
        have hsum : IntKind.i64.wrap (p.n + x) = (j : Int) := by rw [IntWalk.i64_in _ (by omega)]; exact hj
        have hjl' : j < p.wat.length := by omega
        have hne := q3.neG WR.out (by simp)
        go_upto_region 7 with (fail)
        have D3 := Lib.hid q3.dom
        have hwr := q3.drew.alloc (.cells #[Value.int .i64 (p.cls.length : Int)] 3)
        have hrl : (q.wat.getD j []).length < 1000000002 := by
          have h1 := addSt_rows { p with cls := p.cls ++ [distinct l] } (distinct l) p.cls.length i j
          rw [hq] at h1
          have h2 := hwl _ (getD_mem (d := []) hjl')
          simp only at h1
          omega
        have HH := Lib.hid (And.intro ecl (And.intro en (And.intro ewl (And.intro hdk (And.intro hj (And.intro hrow hnx))))))
        clear ecl en ewl hdk hj hrow hnx hxe hq
        have d2 : wr.drew.cell? ⟨g, 2, none⟩ = some (.slice (some ⟨wb, 0, none⟩) p.wat.length wc) := h2
        have d3 : wr.drew.cell? ⟨g, 3, none⟩ = some (.int .i64 p.n) := h3
        refine wp_region_seq (fun w' => w'.cell? ⟨g, 2, none⟩ = some (.slice (some ⟨wb, 0, none⟩) p.wat.length wc) ∧ w'.cell? ⟨g, 3, none⟩ = some (.int .i64 p.n) ∧ w'.cell? ⟨wb, j, none⟩ = some (u3.wrow.getD j undef)) [26]
          [(0, 2), (1, 2), (2, 2), (3, 1), (4, 2), (5, 2), (6, 2), (7, 1), (8, 2), (9, 2), (10, 2), (11, 2), (12, 2), (13, 1), (14, 2), (15, 2), (16, 2), (17, 1), (18, 2), (19, 2), (20, 2), (21, 1), (22, 2), (23, 0), (24, 0), (25, 2), (26, 0)]
          (by kernel_rfl) (by kernel_rfl) (fun c a d v w h => by cases d <;> exact h) (by kernel_rfl) ⟨d2, d3, wcell⟩ ?_
        repeat
          first
            | refine wpSeqN_quiet (v := ?_) rfl (Or.inl ⟨rfl, ?_⟩) ?_
            | refine wpSeqN_pure (v := ?_) rfl (Or.inl ⟨rfl, ?_⟩) ?_
          rotate_left
          focus (intro w hSw; (try dsimp only at hSw); first | (go_simp; done) | (go_simp; with_reducible rfl))
          simp only [Act.put, List.setIfInBounds_toArray, List.set_cons_zero, List.set_cons_succ]
        have x2 := hwr.cells.2.2.1
        rw [WE.out] at x2
        have x3 := hwr.cells.2.2.2.1
        rw [HH.out.2.1] at x3
        have xw : (wr.drew.alloc (.cells #[Value.int .i64 (p.cls.length : Int)] 3)).cell? ⟨wb, j, none⟩ = some (u3.wrow.getD j undef) := (World.cell?_alloc_some wr.drew ⟨wb, j, none⟩ _ (by rw [show wr.drew.cell? ⟨wb, j, none⟩ = _ from wcell]; rfl)).trans wcell
        refine wpSeqN_loud rfl (fun K hK => ?_)
        go_simp
        refine hK.out _ _ (fun _ => ⟨x2, x3, xw⟩) ?_
        clear hK K
        try simp only [Act.put, List.setIfInBounds_toArray, List.set_cons_zero, List.set_cons_succ]
        refine wpSeqN_loud rfl (fun K hK => ?_)
        refine step_app Try.underlying23 info3 rfl rfl _ _ rfl _ _ rfl (hwr.wrow j hjl) hwr.dom _ 1 1 [.int .i64 p.cls.length] rfl rfl (cell_one_new _ _ _) (by simp [Value.oneCell']) (by omega) (by rw [ints_length]; omega) ?_
        rintro a5 n5 c5 w5 R5 ho k5 hd5 -
        obtain ⟨g2, -⟩ := hwr.gkept k5 (by simp) 2
        rw [x2] at g2
        obtain ⟨g3, -⟩ := hwr.gkept k5 (by simp) 3
        rw [x3] at g3
        obtain ⟨xb, xc, xe, -, -, xr, -, xcell, xf⟩ := (hwr.wat.chg k5 (by simp)).cell (i := j) (by rw [hwr.wlen]; exact hjl)
        rw [WE.out] at xe
        simp only [Value.slice.injEq, Option.some.injEq, Addr.mk.injEq, and_true] at xe
        obtain ⟨rfl, -, -⟩ := xe
        rw [show u3.wrow[j]? = some (u3.wrow.getD j undef) from by have := hwr.wlen; simp [this, hjl]] at xcell
        refine hK.out _ _ (fun _ => ⟨g2, g3, xcell⟩) ?_
        clear hK K
        try simp only [Act.put, List.setIfInBounds_toArray, List.set_cons_zero, List.set_cons_succ]
        have XR := Lib.hid xr
        have HO := Lib.hid (And.intro ho (And.intro k5 hd5))
        have HWR := Lib.hid hwr
        have HRL := Lib.hid hrl
        clear xr ho k5 hd5 hwr x2 x3 xw d2 d3 h2 h3 wcell wf dcell hrl q3
        refine wpSeqN_pure (v := ?_) rfl (Or.inl ⟨rfl, ?_⟩) ?_
        rotate_left
        focus (intro w hSw; (try dsimp only at hSw); first | (go_simp; done) | (go_simp; with_reducible rfl))
        try simp only [Act.put, List.setIfInBounds_toArray, List.set_cons_zero, List.set_cons_succ]
        refine wpSeqN_loud rfl (fun K hK => ?_)
        go_simp
        refine hK.out _ _ (fun h => absurd h (by decide)) ?_
        clear hK K
        refine wpSeqN_nil ?_
        go_upto_region 8 with (fail)
        refine cutW (fun w2 => ∃ R5 u5, Rep R5 w2 g T ext u5 (addSt { p with cls := p.cls ++ [distinct l] } (distinct l) p.cls.length (i + 1)) ∧ Hid (u5.crow.getD p.cls.length undef = .slice (some ⟨db, 0, none⟩) (distinct l).length c1) ∧ Chg PRole R w R5 w2) ?_ ?_
        · obtain ⟨ho, k5, hd5⟩ := HO.out
          obtain ⟨ecl, en, ewl, hdk, hj, hrow, hnx⟩ := HH.out
          rw [show [Value.int .i64 (p.cls.length : Int)] = ints [(p.cls.length : Int)] from rfl, ints_append] at ho
          have q5 := HWR.out.putRow hjl k5 hd5 WE.out WR.out ho
          refine ⟨R5, { u3 with wrow := u3.wrow.set j (.slice a5 n5 c5) }, ?_, E3, ?_⟩
          · rw [← hnx]
            simp only [PS.addWatch, PS.putWatch, PS.watch, hrow]
            exact q5
          · exact (((k3.drew.trans (Chg.alloc PRole wr.drew D3.out.drew _)).trans (k5.mono (by simp))).cellG hd5 XR.out (by simp) j _)
        rintro w2 ⟨R6, u6, q6, E6, k6⟩
        go_wp2
        go_roundg (gk - 1)
        case measure => omega
        case rel => exact ⟨i + 1, R6, u6, by go_num, by omega, q6, E6, k6⟩
      · obtain rfl : i = 2 := by omega
        go_wp2
        go_end0
        exact ⟨rfl, R3, u3, by rw [EP.out]; exact q3, k3⟩
end Go.Proofs.Ytjbdiobnlmhidaa
namespace Go.Proofs.Ytjbdiobnlmhidaa
open Go Go.RowKit

theorem truth_still {R : Roles} {w : World} {g T : Nat} {ext : List Value} {u : PV} {p : PS} (h : Rep R w g T ext u p) (l : Int) (hl : LitOk p l) :
    Calls Try.prog 61 #[.pointer (some ⟨g, 0, none⟩), .int .i64 l] w fun e w' => e = .returned (.int .i8 (p.truth l)) ∧ w' = w :=
  (truth_calls h l hl.val hl.rng).mono fun _ _ h => ⟨h.1, h.2.symm⟩

set_option maxHeartbeats 4000000 in
theorem unit_calls {R : Roles} {w : World} {g T : Nat} {ext : List Value} {u : PV} {p : PS} (h : Rep R w g T ext u p) (i : Nat) (hi : i < p.cls.length) (hl : 0 < (p.clause i).length → LitOk p ((p.clause i).getD 0 0))
    (hn : p.val.length ≤ 1000000000) (ht : p.tra.length < 1000000000) (hcl : p.cls.length ≤ 1000000000000) :
    Calls Try.prog 69 #[.pointer (some ⟨g, 0, none⟩), .int .i64 i] w (PPostU (fun u' => u' = { u with tra := u'.tra }) R w g T ext (p.unit i).1 (.bool (p.unit i).2)) := by
  have hcl' : p.clause (i : Int) = p.cls.getD i [] := by simp [PS.clause]
  rw [hcl'] at hl
  obtain ⟨cb, cc, h0, crow, -, -, -⟩ := h.atCls hi
  obtain ⟨a, c, ha, h1, h2, hcell⟩ := h.atCrow hi
  rw [ha] at crow
  have h8 := h.cells.2.2.2.2.2.2.2.2.1
  have f8 := h.free 8
  have hu : p.unit i = if (p.cls.getD i []).length = 0 then ({ p with fal := i }, false) else if p.truth ((p.cls.getD i []).getD 0 0) < 0 then ({ p with fal := i }, false) else if p.truth ((p.cls.getD i []).getD 0 0) = 0 then (p.set ((p.cls.getD i []).getD 0 0) i, true) else (p, true) := by
    simp only [PS.unit, hcl']
  generalize hcd : p.cls.getD i [] = d at *
  have kf := (Chg.refl PRole _ _ h.dom).cellG h.dom h.rg (by simp) 8 (.int .i64 i)
  have qf := h.putFal i
  by_cases h00 : d.length = 0
  · rw [if_pos h00] at hu
    rw [hu]
    have HU := Lib.hid (And.intro qf kf)
    have b0 : (((d.length : Nat) : Int) == 0) = true := by simp [h00]
    clear hu qf kf h hcell hl h00 hcd hcl' ha
    go_enter Try.func69, Try.ntmps69
    go_wp2_with fail
    go_ret
    exact ⟨rfl, R, u, HU.out.1, HU.out.2, rfl⟩
  · rw [if_neg h00] at hu
    obtain ⟨db, rfl, dcell, -, -⟩ := hcell 0 (by omega)
    have ok := hl (by omega)
    have b0 : (((d.length : Nat) : Int) == 0) = false := beq_eq_false_iff_ne.2 (by omega)
    generalize hx : d.getD 0 0 = x at *
    have H := Lib.hid h
    have OK := Lib.hid ok
    have tr : -1 ≤ p.truth x ∧ p.truth x ≤ 1 := by
      have := ok.rng
      unfold PS.truth
      split <;> omega
    have hd0 : 0 < d.length := by omega
    clear h ok hcell hl hcd hcl' ha hx h00
    generalize ht : p.truth x = t at *
    have HT := Lib.hid ht
    clear ht
    by_cases hneg : t < 0
    · rw [if_pos hneg] at hu
      rw [hu]
      have HU := Lib.hid (And.intro qf kf)
      clear hu qf kf
      go_enter Try.func69, Try.ntmps69
      go_wp2_with (go_at_call 61; refine (truth_calls H.out x OK.out.val OK.out.rng).mono ?_; rw [HT.out]; rintro e w' ⟨rfl, rfl⟩)
      go_ret
      exact ⟨rfl, R, u, HU.out.1, HU.out.2, rfl⟩
    · rw [if_neg hneg] at hu
      by_cases hz : t = 0
      · rw [if_pos hz] at hu
        rw [hu]
        subst hz
        clear hu qf kf
        go_enter Try.func69, Try.ntmps69
        go_wp2_with (first | (go_at_call 61; refine (truth_calls H.out x OK.out.val OK.out.rng).mono ?_; rw [HT.out]; rintro e w' ⟨rfl, rfl⟩) | (go_at_call 68; refine (set_calls H.out x i OK.out.val OK.out.rea (by omega) (by omega)).mono ?_; rintro e w' ⟨rfl, R', u', q', k', hU⟩; have HU' := Lib.hid hU; clear hU))
        go_ret
        exact ⟨rfl, R', u', q', k', HU'.out⟩
      · rw [if_neg hz] at hu
        rw [hu]
        have bz : (t == 0) = false := by simp [hz]
        clear hu qf kf
        go_enter Try.func69, Try.ntmps69
        go_wp2_with (first | (go_at_call 61; refine (truth_calls H.out x OK.out.val OK.out.rng).mono ?_; rw [HT.out]; rintro e w' ⟨rfl, rfl⟩))
        go_ret
        exact ⟨rfl, R, u, H.out, Chg.refl _ _ _ H.out.dom, rfl⟩
end Go.Proofs.Ytjbdiobnlmhidaa
