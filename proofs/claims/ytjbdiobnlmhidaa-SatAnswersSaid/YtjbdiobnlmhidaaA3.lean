/- Proved here: visiting the clauses does what the plain propagator does. Conditions: those that each theorem states. -/
import Derived.Test.YtjbdiobnlmhidaaA2
set_option linter.unusedVariables false
set_option linter.unusedSimpArgs false
namespace Go.Proofs.Ytjbdiobnlmhidaa
open Go Go.RowKit

theorem cell_alloc_kept {w : World} {a : Addr} {v : Value} (o : Obj) (h : w.cell? a = some v) : (w.alloc o).cell? a = some v :=
  (World.cell?_alloc_some w a o (by rw [h]; rfl)).trans h

theorem Chg.cell {S : Role → Prop} {R R' : Roles} {w w' : World} (k : Chg S R w R' w') {b i : Nat} {v : Value} (h : w.cell? ⟨b, i, none⟩ = some v) (hr : ∀ r, R b = some r → ¬ S r) : w'.cell? ⟨b, i, none⟩ = some v := by
  rw [World.cell?_of_block (w := w) (a := ⟨b, i, none⟩) (k.kept b (World.block_lt_of_cell? w ⟨b, i, none⟩ h) hr)]
  exact h

theorem Chg.frozen {S : Role → Prop} {R R' : Roles} {w w' : World} (k : Chg S R w R' w') {b i : Nat} (hb : b < w.heap.size) (h : w.frozen? ⟨b, i, none⟩ = false) (hr : ∀ r, R b = some r → ¬ S r) : w'.frozen? ⟨b, i, none⟩ = false := by
  rw [World.frozen?_of_block (w := w) (a := ⟨b, i, none⟩) (k.kept b hb hr)]
  exact h

set_option maxHeartbeats 8000000 in
theorem rewatch_calls {R : Roles} {w : World} {g T : Nat} {ext : List Value} {u : PV} {p : PS} (h : Rep R w g T ext u p) (i : Nat) (hi : i < p.cls.length) (h2 : 2 ≤ (p.clause i).length)
    (hl : ∀ k, k < (p.clause i).length → WatOk p ((p.clause i).getD k 0))
    (hn : p.val.length ≤ 1000000000) (hcl : p.cls.length ≤ 1000000000000) (hwn : p.wat.length ≤ 1000000000) (hcn : (p.clause i).length ≤ 1000000000) (hwl : ∀ r ∈ p.wat, r.length < 100000000000) :
    Calls Try.prog 75 #[.pointer (some ⟨g, 0, none⟩), .int .i64 i] w (PPostU (fun u' => u'.crow = u.crow ∧ u'.cls = u.cls ∧ ∀ l, p.truth l < 0 → 0 ≤ p.n + l → u'.wrow.getD (p.row l) undef = u.wrow.getD (p.row l) undef) R w g T ext (p.rewatch i).1 (.bool (p.rewatch i).2)) := by
  have hcl' : p.clause (i : Int) = p.cls.getD i [] := by simp [PS.clause]
  obtain ⟨cb, cc, h0, crow, -, -, -⟩ := h.atCls hi
  obtain ⟨da, c, ha, h1, hc2, hcell⟩ := h.atCrow hi
  obtain ⟨db, rfl, -, -, hdb⟩ := hcell 0 (by rw [← hcl']; omega)
  rw [ha] at crow
  have hrw : p.rewatch i = match p.find (p.clause i) ((p.clause i).length - 2) 2 with
    | none => (p, false)
    | some k => ((p.swap i 1 k).addWatch ((p.clause i).getD k 0) i, true) := rfl
  rw [hcl'] at h2 hl hcn hrw
  generalize hd : p.cls.getD i [] = d at *
  have H := Lib.hid h
  have HC := Lib.hid hcell
  have HL := Lib.hid hl
  have HD := Lib.hid (And.intro hd hcl')
  have HA := Lib.hid ha
  have HR := Lib.hid hrw
  have HDB := Lib.hid hdb
  unfold maxLen at hc2
  clear h hcell hl hd hcl' ha hrw hdb
  go_enter Try.func75, Try.ntmps75
  go_wp2_with fail
  go_loopg [6] d.length (fun kq v6 w' => ∃ k : Nat, v6 = .int .i64 k ∧ 2 ≤ k ∧ k + kq = d.length + 2 ∧ k ≤ d.length ∧ Hid (p.find d (d.length - k) k = p.find d (d.length - 2) 2) ∧ w = w')
  case atStart => exact ⟨2, rfl, by omega, by omega, by omega, rfl, rfl⟩
  case round =>
    obtain ⟨k, rfl, hk2, hkq, hkl, HF, rfl⟩ := hrel
    by_cases hlt : k < d.length
    · obtain ⟨_, e, dcell, dfz, -⟩ := HC.out k hlt
      cases e
      have ok := HL.out k hlt
      generalize hx : d.getD k 0 = x at *
      have HX := Lib.hid hx
      have tr : -1 ≤ p.truth x ∧ p.truth x ≤ 1 := by
        have := ok.lit.rng
        unfold PS.truth
        split <;> omega
      have hfind : p.find d (d.length - k) k = if p.truth x ≥ 0 then some k else p.find d (d.length - (k + 1)) (k + 1) := by
        rw [show d.length - k = (d.length - (k + 1)) + 1 from by omega]
        simp only [PS.find, hx]
      have HFI := Lib.hid hfind
      have OK := Lib.hid ok
      clear hx ok hfind
      generalize ht : p.truth x = t at *
      have HT := Lib.hid ht
      clear ht
      by_cases hneg : t < 0
      · go_wp2_with (go_at_call 61; refine (truth_calls H.out x OK.out.lit.val OK.out.lit.rng).mono ?_; rw [HT.out]; rintro e w' ⟨rfl, rfl⟩)
        go_roundg (gk - 1)
        case measure => omega
        case rel => exact ⟨k + 1, by go_num, by omega, by omega, by omega, by rw [← HF.out, HFI.out, if_neg (by omega)]; exact rfl, rfl⟩
      · have hpos : 0 ≤ t := by omega
        have hres : p.rewatch i = ((p.swap i 1 k).addWatch x i, true) := by
          rw [HR.out, ← HF.out, HFI.out, if_pos (by omega)]
          simp only [HX.out]
        obtain ⟨_, e, dcell1, dfz1, -⟩ := HC.out 1 (by omega)
        cases e
        have HRES := Lib.hid hres
        clear hres
        go_upto_region 6 with (go_at_call 61; refine (truth_calls H.out x OK.out.lit.val OK.out.lit.rng).mono ?_; rw [HT.out]; rintro e w' ⟨rfl, rfl⟩)
        generalize hy : d.getD 1 0 = y at *
        have HY := Lib.hid hy
        clear hy
        have i1 : 1 < d.length := by omega
        have i1' : (1 : Int) < (d.length : Int) := by omega
        have e1 : w.drew.cell? ⟨db, k, none⟩ = some (.int .i64 x) := dcell
        have e2 : w.drew.cell? ⟨db, 1, none⟩ = some (.int .i64 y) := dcell1
        refine wp_region_seq (fun w' => w'.cell? ⟨db, k, none⟩ = some (.int .i64 x) ∧ w'.cell? ⟨db, 1, none⟩ = some (.int .i64 y)) [11, 13]
          [(0, 2), (1, 2), (2, 2), (3, 2), (4, 2), (5, 2), (6, 1), (7, 2), (8, 2), (9, 1), (10, 2), (11, 0), (12, 2), (13, 0)]
          (by kernel_rfl) (by kernel_rfl) (fun c a d v w h => by cases d <;> exact h) (by kernel_rfl) ⟨e1, e2⟩ ?_
        repeat
          first
            | refine wpSeqN_quiet (v := ?_) rfl (Or.inl ⟨rfl, ?_⟩) ?_
            | refine wpSeqN_pure (v := ?_) rfl (Or.inl ⟨rfl, ?_⟩) ?_
          rotate_left
          focus (intro w hSw; (try dsimp only at hSw); first | (go_simp; done) | (go_simp; with_reducible rfl))
          simp only [Act.put, List.setIfInBounds_toArray, List.set_cons_zero, List.set_cons_succ]
        refine wpSeqN_loud rfl (fun K hK => ?_)
        go_simp
        refine hK.out _ _ (fun h => absurd h (by decide)) ?_
        clear hK K
        try simp only [Act.put, List.setIfInBounds_toArray, List.set_cons_zero, List.set_cons_succ]
        repeat
          first
            | refine wpSeqN_quiet (v := ?_) rfl (Or.inl ⟨rfl, ?_⟩) ?_
            | refine wpSeqN_pure (v := ?_) rfl (Or.inl ⟨rfl, ?_⟩) ?_
          rotate_left
          focus (intro w hSw; (try dsimp only at hSw); first | (go_simp; done) | (go_simp; with_reducible rfl))
          simp only [Act.put, List.setIfInBounds_toArray, List.set_cons_zero, List.set_cons_succ]
        refine wpSeqN_loud rfl (fun K hK => ?_)
        go_simp
        refine hK.out _ _ (fun h => absurd h (by decide)) ?_
        clear hK K
        try simp only [Act.put, List.setIfInBounds_toArray, List.set_cons_zero, List.set_cons_succ]
        refine wpSeqN_nil ?_

        go_upto_region 7 with (fail)
        refine cutW (fun w1 => Rep R w1 g T ext u (p.swap i 1 k) ∧ w1.cell? ⟨db, 1, none⟩ = some (.int .i64 x) ∧ Chg PRole R w R w1) ?_ ?_
        · have hdd := HD.out.1
          have q1 := H.out.setCrow (i := 1) hi HA.out HDB.out (by rw [hdd]; omega) x
          rw [hdd] at q1
          have hdd1 : (p.cls.set i (d.set 1 x)).getD i [] = d.set 1 x := by rw [getD_set]; simp [hi]
          have q2 := q1.setCrow (k := i) (i := k) (by simpa using hi) HA.out HDB.out (by simp only; rw [hdd1]; simpa using hlt) y
          simp only at q2
          rw [hdd1, List.set_set] at q2
          refine ⟨?_, ?_, ?_⟩
          · have e : p.swap i 1 k = { p with cls := p.cls.set i ((d.set 1 x).set k y) } := by
              simp only [PS.swap, HD.out.2, HX.out, HY.out, Int.toNat_natCast]
            rw [e]
            exact q2.drew
          · go_simp
          · exact (((Chg.refl PRole _ _ H.out.dom).cellG H.out.dom HDB.out (by simp) 1 (.int .i64 x)).cellG (H.out.dom.setCell _ _) HDB.out (by simp) k (.int .i64 y)).drew
        clear e1 e2 dcell dcell1 dfz dfz1
        rintro w1 ⟨q1, dcell, k1⟩
        obtain ⟨j, hj⟩ : ∃ j : Nat, p.n + x = j := ⟨(p.n + x).toNat, by have := OK.out.lo; omega⟩
        have hjl : j < (p.swap i 1 k).wat.length := by have := OK.out.hi; show j < p.wat.length; omega
        have hjl' : j < p.wat.length := hjl
        have hrow : (p.swap i 1 k).row x = j := by simp [PS.row, PS.swap, hj]
        obtain ⟨wb, wc, h2, wcell, wf, WE, WR⟩ := q1.atWat hjl
        rw [show (p.swap i 1 k).wat.length = p.wat.length from rfl] at h2 WE
        have h3 := q1.cells.2.2.2.1
        rw [show (p.swap i 1 k).n = p.n from rfl] at h3
        have hsum : IntKind.i64.wrap (p.n + x) = (j : Int) := by rw [IntWalk.i64_in _ (by omega)]; exact hj
        have hne := q1.neG WR.out (by simp)
        have hrl : ((p.swap i 1 k).wat.getD j []).length < 100000000000 := hwl _ (getD_mem (d := []) hjl)
        have D1 := Lib.hid q1.dom
        have hwr := q1.drew.alloc (.cells #[Value.int .i64 i] 3)
        have HH := Lib.hid (And.intro hj hrow)
        clear hj hrow
        have d2 : w1.drew.cell? ⟨g, 2, none⟩ = some (.slice (some ⟨wb, 0, none⟩) p.wat.length wc) := h2
        have d3 : w1.drew.cell? ⟨g, 3, none⟩ = some (.int .i64 p.n) := h3
        have dd : w1.drew.cell? ⟨db, 1, none⟩ = some (.int .i64 x) := dcell
        have dw : w1.drew.cell? ⟨wb, j, none⟩ = some (u.wrow.getD j undef) := wcell
        have HWR := Lib.hid hwr
        have K1 := Lib.hid k1
        have HRL := Lib.hid hrl
        clear hwr k1 q1 hrl wcell h2 h3 dcell wf
        refine wp_region_seq (fun w' => w'.cell? ⟨g, 2, none⟩ = some (.slice (some ⟨wb, 0, none⟩) p.wat.length wc) ∧ w'.cell? ⟨g, 3, none⟩ = some (.int .i64 p.n) ∧ w'.cell? ⟨db, 1, none⟩ = some (.int .i64 x) ∧ w'.cell? ⟨wb, j, none⟩ = some (u.wrow.getD j undef)) [30]
          [(0, 2), (1, 2), (2, 2), (3, 1), (4, 2), (5, 2), (6, 2), (7, 1), (8, 2), (9, 2), (10, 1), (11, 2), (12, 2), (13, 2), (14, 2), (15, 1), (16, 2), (17, 2), (18, 2), (19, 1), (20, 2), (21, 2), (22, 1), (23, 2), (24, 2), (25, 1), (26, 2), (27, 0), (28, 0), (29, 2), (30, 0)]
          (by kernel_rfl) (by kernel_rfl) (fun c a d v w h => by cases d <;> exact h) (by kernel_rfl) ⟨d2, d3, dd, dw⟩ ?_
        repeat
          first
            | refine wpSeqN_quiet (v := ?_) rfl (Or.inl ⟨rfl, ?_⟩) ?_
            | refine wpSeqN_pure (v := ?_) rfl (Or.inl ⟨rfl, ?_⟩) ?_
          rotate_left
          focus (intro w hSw; (try dsimp only at hSw); first | (go_simp; done) | (go_simp; with_reducible rfl))
          simp only [Act.put, List.setIfInBounds_toArray, List.set_cons_zero, List.set_cons_succ]
        have x2 := cell_alloc_kept (.cells #[Value.int .i64 i] 3) d2
        have x3 := cell_alloc_kept (.cells #[Value.int .i64 i] 3) d3
        have xd := cell_alloc_kept (.cells #[Value.int .i64 i] 3) dd
        have xw := cell_alloc_kept (.cells #[Value.int .i64 i] 3) dw
        refine wpSeqN_loud rfl (fun K hK => ?_)
        go_simp
        refine hK.out _ _ (fun _ => ⟨x2, x3, xd, xw⟩) ?_
        clear hK K
        try simp only [Act.put, List.setIfInBounds_toArray, List.set_cons_zero, List.set_cons_succ]
        refine wpSeqN_loud rfl (fun K hK => ?_)
        refine step_app Try.underlying23 info3 rfl rfl _ _ rfl _ _ rfl (HWR.out.wrow j hjl) HWR.out.dom _ 1 1 [.int .i64 i] rfl rfl (cell_one_new _ _ _) (by simp [Value.oneCell']) (by omega) (by have := HRL.out; rw [ints_length]; omega) ?_
        rintro a5 n5 c5 w5 R5 ho k5 hd5 -
        have g2 := k5.cell x2 (fun r hr => by rw [HWR.out.rg] at hr; cases hr; simp)
        have g3 := k5.cell x3 (fun r hr => by rw [HWR.out.rg] at hr; cases hr; simp)
        have gd := k5.cell xd (fun r hr => by rw [HDB.out] at hr; cases hr; simp)
        have gw := k5.cell xw (fun r hr => by rw [WR.out] at hr; cases hr; simp)
        have gf : w5.frozen? ⟨wb, j, none⟩ = false := by
          obtain ⟨_, _, _, _, wf, WE', _⟩ := HWR.out.atWat hjl
          have e := WE.out.symm.trans WE'.out
          cases e
          exact k5.frozen (HWR.out.dom _ _ WR.out) wf (fun r hr => by rw [WR.out] at hr; cases hr; simp)
        refine hK.out _ _ (fun _ => ⟨g2, g3, gd, gw⟩) ?_
        clear hK K
        try simp only [Act.put, List.setIfInBounds_toArray, List.set_cons_zero, List.set_cons_succ]
        have HO := Lib.hid (And.intro ho (And.intro k5 hd5))
        clear ho k5 hd5 x2 x3 xd xw d2 d3 dd dw
        repeat
          first
            | refine wpSeqN_quiet (v := ?_) rfl (Or.inl ⟨rfl, ?_⟩) ?_
            | refine wpSeqN_pure (v := ?_) rfl (Or.inl ⟨rfl, ?_⟩) ?_
          rotate_left
          focus (intro w hSw; (try dsimp only at hSw); first | (go_simp; done) | (go_simp; with_reducible rfl))
          simp only [Act.put, List.setIfInBounds_toArray, List.set_cons_zero, List.set_cons_succ]
        refine wpSeqN_loud rfl (fun K hK => ?_)
        go_simp
        refine hK.out _ _ (fun h => absurd h (by decide)) ?_
        clear hK K
        try simp only [Act.put, List.setIfInBounds_toArray, List.set_cons_zero, List.set_cons_succ]
        refine wpSeqN_nil ?_
        go_upto_region 8 with (fail)
        refine cutW (fun w2 => ∃ R5 u5, Rep R5 w2 g T ext u5 ((p.swap i 1 k).addWatch x i) ∧ Chg PRole R w R5 w2 ∧ (u5.crow = u.crow ∧ u5.cls = u.cls ∧ ∀ l, p.truth l < 0 → 0 ≤ p.n + l → u5.wrow.getD (p.row l) undef = u.wrow.getD (p.row l) undef)) ?_ ?_
        · obtain ⟨ho, k5, hd5⟩ := HO.out
          obtain ⟨hj, hrow⟩ := HH.out
          rw [show [Value.int .i64 (i : Int)] = ints [(i : Int)] from rfl, ints_append] at ho
          have q5 := HWR.out.putRow hjl k5 hd5 WE.out WR.out ho
          refine ⟨R5, { u with wrow := u.wrow.set j (.slice a5 n5 c5) }, ?_, ?_, rfl, rfl, fun l hl0 hl1 => ?_⟩
          · simp only [PS.addWatch, PS.putWatch, PS.watch, hrow]
            exact q5
          · exact (((K1.out.drew.trans (Chg.alloc PRole w1.drew D1.out.drew _)).trans (k5.mono (by simp))).cellG hd5 ((k5.old wb (HWR.out.dom _ _ WR.out)).trans WR.out) (by simp) j _)
          · simp only [getD_set]
            rw [if_neg fun e => ?_]
            have hxl : x ≠ l := fun e => by
              have := HT.out
              rw [e] at this
              omega
            have e1 := e.1
            simp only [PS.row] at e1
            exact hxl (by omega)
        rintro w2 ⟨R6, u6, q6, k6⟩
        go_wp2
        go_ret
        rw [HRES.out]
        exact ⟨rfl, R6, u6, q6, k6⟩
    · obtain rfl : k = d.length := by omega
      have hres : p.rewatch i = (p, false) := by
        rw [HR.out, ← HF.out, Nat.sub_self]
        rfl
      have HRES := Lib.hid hres
      clear hres
      go_wp2
      go_ret
      rw [HRES.out]
      exact ⟨rfl, R, u, H.out, Chg.refl _ _ _ H.out.dom, rfl, rfl, fun _ _ _ => rfl⟩
end Go.Proofs.Ytjbdiobnlmhidaa
namespace Go.Proofs.Ytjbdiobnlmhidaa
open Go Go.RowKit

set_option maxRecDepth 100000 in
set_option maxHeartbeats 16000000 in
theorem visit_calls {R : Roles} {w : World} {g T : Nat} {ext : List Value} {u : PV} {p : PS} (h : Rep R w g T ext u p) (hwf : WF p) (l : Int) (hl : Lit p.n l) (hf : p.truth l < 0)
    (hb : ∀ j, (p.wat.getD j []).length ≤ 1000000000) (ht : p.tra.length + (p.watch l).length < 1000000000) :
    Calls Try.prog 70 #[.pointer (some ⟨g, 0, none⟩), .int .i64 l] w (PPost R w g T ext (p.visit l).1 (.bool (p.visit l).2)) := by
  obtain ⟨hjl, hj⟩ := hwf.row hl
  obtain ⟨ra, rc, hra, hrc1, hrc2, -⟩ := h.atWrow hjl
  have hlen0 : (p.watch l).length = (p.wat.getD (p.row l) []).length := rfl
  have hvi := VI.start hwf hl hf hb
  have hlm : (p.watch l).length ≤ 1000000000 := by rw [hlen0]; exact hb _
  rw [← hlen0] at hra hrc1
  generalize hlen : (p.watch l).length = len at *
  generalize hrow : p.row l = j at *
  obtain ⟨wb, wc, h2, wcell, -, WE, -⟩ := h.atWat hjl
  rw [hra] at wcell
  have h3 := h.cells.2.2.2.1
  have hsum : IntKind.i64.wrap (p.n + l) = (j : Int) := by rw [IntWalk.i64_in _ (by have := hwf.nmax; have := hwf.wat; omega)]; exact hj.symm
  have hwl : p.wat.length ≤ 1000000000 := by have := hwf.nmax; have := hwf.wat; omega
  have H := Lib.hid h
  have HVI := Lib.hid hvi
  have HRA := Lib.hid hra
  have HJ := Lib.hid (And.intro hj (And.intro hrow hlen))
  have HW := Lib.hid hwf
  unfold maxLen at hrc2
  have hrc0 : (0 : Int) ≤ (rc : Int) := by omega
  clear h hvi hra hj hrow hlen hwf hlen0 hb hf hl
  go_enter Try.func70, Try.ntmps70
  go_wp2_with fail
  have d2 : w.drew.cell? ⟨g, 2, none⟩ = some (.slice (some ⟨wb, 0, none⟩) p.wat.length wc) := h2
  have d3 : w.drew.cell? ⟨g, 3, none⟩ = some (.int .i64 p.n) := h3
  have dw : w.drew.cell? ⟨wb, j, none⟩ = some (.slice ra len rc) := wcell
  refine wp_region_seq (fun w' => w'.cell? ⟨g, 2, none⟩ = some (.slice (some ⟨wb, 0, none⟩) p.wat.length wc) ∧ w'.cell? ⟨g, 3, none⟩ = some (.int .i64 p.n) ∧ w'.cell? ⟨wb, j, none⟩ = some (.slice ra len rc)) []
    [(0, 2), (1, 2), (2, 2), (3, 1), (4, 2), (5, 2), (6, 2), (7, 1), (8, 2), (9, 2), (10, 2), (11, 1), (12, 2)]
    (by kernel_rfl) (by kernel_rfl) (fun c a d v w h => by cases d <;> exact h) (by kernel_rfl) ⟨d2, d3, dw⟩ ?_
  repeat
    first
      | refine wpSeqN_quiet (v := ?_) rfl (Or.inl ⟨rfl, ?_⟩) ?_
      | refine wpSeqN_pure (v := ?_) rfl (Or.inl ⟨rfl, ?_⟩) ?_
    rotate_left
    focus (intro w hSw; (try dsimp only at hSw); first | (go_simp; done) | (go_simp; with_reducible rfl))
    simp only [Act.put, List.setIfInBounds_toArray, List.set_cons_zero, List.set_cons_succ]
  refine wpSeqN_nil ?_
  have H1 := Lib.hid H.out.drew
  have K0 : Chg PRole R w R w.drew := (Chg.refl _ _ _ H.out.dom).drew
  have HK0 := Lib.hid K0
  clear K0 d2 d3 dw h2 h3 wcell
  go_wp2_with fail
  go_loopg [26, 6] len (fun kq v26 v6 w' => ∃ (k m : Nat) (q : PS) (R1 : Roles) (u1 : PV), v26 = .int .i64 k ∧ v6 = .slice ra m rc ∧ k + kq = len ∧ m ≤ k ∧ Hid (VI p l len k m q) ∧ Hid (Rep R1 w' g T ext u1 q) ∧ Hid (u1.wrow.getD j undef = .slice ra len rc) ∧ Hid (Chg PRole R w R1 w'))
  case atStart => exact ⟨0, 0, p, R, u, rfl, rfl, by omega, by omega, HVI, H1, HRA, HK0⟩
  case round =>
    obtain ⟨k, m, q, R1, u1, rfl, rfl, hk, hm, VQ, Q1, HR1, K1⟩ := hrel
    clear H1 HK0 HVI HRA
    have hrowq : q.row l = j := by
      have := VQ.out.n
      have := HJ.out.1
      unfold PS.row
      omega
    have hjq : j < q.wat.length := by rw [VQ.out.wl]; exact hjl
    have hwq : q.watch l = q.wat.getD j [] := by unfold PS.watch; rw [hrowq]
    have HWQ := Lib.hid (And.intro hrowq hwq)
    clear hrowq hwq
    by_cases hlt : k < len
    · obtain ⟨i, hi, hic, hc2⟩ := VQ.out.next hlt
      have VFQ := Lib.hid (VQ.out.front hlt hi hic hc2)
      obtain ⟨ra', rc', hra', -, -, hcells⟩ := Q1.out.atWrow hjq
      rw [← HWQ.out.2, VQ.out.len_] at hra' hcells
      have e := HR1.out.symm.trans hra'
      simp only [Value.slice.injEq, true_and] at e
      obtain ⟨rfl, rfl⟩ := e
      obtain ⟨rb, rfl, kcell, -, hRb⟩ := hcells k hlt
      rw [hi] at kcell
      obtain ⟨cb, cc, h0, crow, -, CE, -⟩ := Q1.out.atCls hic
      obtain ⟨da, dc, hda, hd1, hd2, dcells⟩ := Q1.out.atCrow hic
      obtain ⟨db, rfl, d0cell, d0f, hRd⟩ := dcells 0 (by omega)
      obtain ⟨_, e, d1cell, d1f, -⟩ := dcells 1 (by omega)
      cases e
      rw [hda] at crow
      have HDA := Lib.hid hda
      have HRD := Lib.hid hRd
      have HRB := Lib.hid hRb
      have HI := Lib.hid hi
      have hq1 : q.cls.length ≤ 1000000000 := by have := VQ.out.wf.cnum; omega
      generalize hcd : q.cls.getD i [] = d at *
      have HCD := Lib.hid hcd
      generalize hd0 : d.getD 0 0 = y0 at *
      generalize hd1' : d.getD 1 0 = y1 at *
      have HD0 := Lib.hid (And.intro hd0 hd1')
      have i1 : 1 < d.length := by omega
      have i0 : 0 < d.length := by omega
      have i1' : (1 : Int) < (d.length : Int) := by omega
      have i0' : (0 : Int) < (d.length : Int) := by omega
      unfold maxLen at hd2
      clear hra' hcells hi hda hRd hRb hcd hd0 hd1' dcells
      by_cases hy : y0 = l
      case' pos =>
        have by0 : (y0 == l) = true := by simp [hy]
        have HY := Lib.hid hy
        clear hy
        go_upto_region 8 with (fail)
        have e0 : wr.drew.cell? ⟨db, 0, none⟩ = some (.int .i64 y0) := d0cell
        have e1 : wr.drew.cell? ⟨db, 1, none⟩ = some (.int .i64 y1) := d1cell
        refine wp_region_seq (fun w' => w'.cell? ⟨db, 0, none⟩ = some (.int .i64 y0) ∧ w'.cell? ⟨db, 1, none⟩ = some (.int .i64 y1)) [9, 11]
          [(0, 2), (1, 2), (2, 2), (3, 2), (4, 1), (5, 2), (6, 2), (7, 1), (8, 2), (9, 0), (10, 2), (11, 0)]
          (by kernel_rfl) (by kernel_rfl) (fun c a d v w h => by cases d <;> exact h) (by kernel_rfl) ⟨e0, e1⟩ ?_
        repeat
          first
            | refine wpSeqN_quiet (v := ?_) rfl (Or.inl ⟨rfl, ?_⟩) ?_
            | refine wpSeqN_pure (v := ?_) rfl (Or.inl ⟨rfl, ?_⟩) ?_
          rotate_left
          focus (intro w hSw; (try dsimp only at hSw); first | (go_simp; done) | (go_simp; with_reducible rfl))
          simp only [Act.put, List.setIfInBounds_toArray, List.set_cons_zero, List.set_cons_succ]
        refine wpSeqN_loud rfl (fun K hK => ?_)
        go_simp
        refine hK.out _ _ (fun h => absurd h (by decide)) ?_
        clear hK K
        try simp only [Act.put, List.setIfInBounds_toArray, List.set_cons_zero, List.set_cons_succ]
        repeat
          first
            | refine wpSeqN_quiet (v := ?_) rfl (Or.inl ⟨rfl, ?_⟩) ?_
            | refine wpSeqN_pure (v := ?_) rfl (Or.inl ⟨rfl, ?_⟩) ?_
          rotate_left
          focus (intro w hSw; (try dsimp only at hSw); first | (go_simp; done) | (go_simp; with_reducible rfl))
          simp only [Act.put, List.setIfInBounds_toArray, List.set_cons_zero, List.set_cons_succ]
        refine wpSeqN_loud rfl (fun K hK => ?_)
        go_simp
        refine hK.out _ _ (fun h => absurd h (by decide)) ?_
        clear hK K
        try simp only [Act.put, List.setIfInBounds_toArray, List.set_cons_zero, List.set_cons_succ]
        refine wpSeqN_nil ?_
        go_upto_region 9 with (fail)
        refine cutW (fun w1 => Hid (Rep R1 w1 g T ext u1 (q.front l i)) ∧ Hid (Chg PRole R w R1 w1)) ?_ ?_
        · have hdd := HCD.out
          have q1 := Q1.out.setCrow (i := 0) hic HDA.out HRD.out (by rw [hdd]; omega) y1
          rw [hdd] at q1
          have hdd1 : (q.cls.set i (d.set 0 y1)).getD i [] = d.set 0 y1 := by rw [getD_set]; simp [hic]
          have q2 := q1.setCrow (k := i) (i := 1) (by simpa using hic) HDA.out HRD.out (by simp only; rw [hdd1]; simpa using i1) y0
          simp only at q2
          rw [hdd1, List.set_set] at q2
          refine ⟨?_, ?_⟩
          · have e : q.front l i = { q with cls := q.cls.set i ((d.set 0 y1).set 1 y0) } := by
              simp only [PS.front, PS.swap, clause_nat, HCD.out, HD0.out.1, HD0.out.2, HY.out, if_true, Int.toNat_natCast]
            rw [e]
            exact q2.drew
          · exact (((K1.out.cellG Q1.out.dom HRD.out (by simp) 0 (.int .i64 y1)).cellG (Q1.out.dom.setCell _ _) HRD.out (by simp) 1 (.int .i64 y0))).drew
        clear e0 e1
      case' neg =>
        have by0 : (y0 == l) = false := by simp [hy]
        have HY := Lib.hid hy
        clear hy
        go_upto_region 9 with (fail)
        refine cutW (fun w1 => Hid (Rep R1 w1 g T ext u1 (q.front l i)) ∧ Hid (Chg PRole R w R1 w1)) ⟨?_, K1⟩ ?_
        · have e : q.front l i = q := by
            simp only [PS.front, clause_nat, HCD.out, HD0.out.1, if_neg HY.out]
          rw [e]
          exact Q1
      all_goals
        clear Q1 K1 d0cell d1cell d0f d1f kcell h0 crow HCD HD0 HY by0 VQ HI CE
        rintro w1 ⟨Q1, K1⟩
        generalize q.front l (i : Int) = q2 at *
        generalize hc0 : (q2.cls.getD i []).getD 0 0 = c0 at *
        have hic2 : i < q2.cls.length := VFQ.out.lt
        have hq2 : q2.cls.length ≤ 1000000000 := by have := VFQ.out.wf.cnum; omega
        have hj2 : j < q2.wat.length := by rw [VFQ.out.wl]; exact hjl
        have hrow2 : q2.row l = j := by
          have := VFQ.out.n
          have := HJ.out.1
          unfold PS.row
          omega
        have hwatch2 : q2.watch l = q2.wat.getD j [] := by unfold PS.watch; rw [hrow2]
        have HWQ2 := Lib.hid (And.intro hrow2 hwatch2)
        obtain ⟨da', dc', hda', -, -, dcells⟩ := Q1.out.atCrow hic2
        have e := HDA.out.symm.trans hda'
        simp only [Value.slice.injEq, true_and] at e
        obtain ⟨rfl, hdl, rfl⟩ := e
        rw [← hdl] at dcells
        obtain ⟨_, e, d0cell, -, -⟩ := dcells 0 i0
        cases e
        rw [hc0] at d0cell
        have OK := Lib.hid (VFQ.out.wf.litOk VFQ.out.ok0)
        have tr : -1 ≤ q2.truth c0 ∧ q2.truth c0 ≤ 1 := by
          have := OK.out.rng
          unfold PS.truth
          split <;> omega
        have HDL := Lib.hid hdl
        generalize htt : q2.truth c0 = t at *
        have HT := Lib.hid htt
        clear hc0 hrow2 hwatch2 hda' dcells hdl htt HWQ
        by_cases hpos : 0 < t
        case' pos =>
          have ht0 : ¬ t ≤ 0 := by omega
          have HB : Hid (t ≤ 0 → (q2.rewatch i).2 = false) := fun h => absurd h ht0
          go_upto_region 10 with (go_at_call 61; refine (truth_calls Q1.out c0 OK.out.val OK.out.rng).mono ?_; rw [HT.out]; rintro e w' ⟨rfl, rfl⟩)
          refine cutW (fun w2 => ∃ R2 u2, Hid (Rep R2 w2 g T ext u2 q2) ∧ Hid (u2.crow.getD i undef = .slice (some ⟨db, 0, none⟩) d.length dc) ∧ Hid (u2.wrow.getD j undef = .slice (some ⟨rb, 0, none⟩) len rc) ∧ Hid (Chg PRole R w R2 w2)) ⟨R1, u1, Q1, HDA, HR1, K1⟩ ?_
        case' neg =>
          have RW := Lib.hid (rewatch_calls Q1.out i hic2 (by rw [clause_nat]; exact VFQ.out.c2) (fun k hk => VFQ.out.wf.watOk (VFQ.out.wf.lit _ (getD_mem hic2) _ (by rw [clause_nat] at hk ⊢; exact getD_mem hk)))
            (by have := VFQ.out.wf.val; have := VFQ.out.wf.nmax; omega) (by omega) (by rw [VFQ.out.wl]; exact hwl) (by rw [clause_nat]; have := VFQ.out.wf.clen _ (getD_mem (d := ([] : List Int)) hic2); omega)
            (fun r hr => by
              obtain ⟨n, hn, rfl⟩ := List.getElem_of_mem hr
              have := VFQ.out.rows n
              simp [hn] at this
              omega))
          have hle : t ≤ 0 := by omega
          have hUl := Lib.hid (And.intro VFQ.out.fls (show 0 ≤ q2.n + l from by have := HJ.out.1; have := VFQ.out.n; omega))
          rcases hb : (q2.rewatch (i : Int)).2 with _ | _
          case' true =>
            have HBT := Lib.hid hb
            rw [hb] at RW
            clear hb
            go_wp2_with (first | (go_at_call 61; refine (truth_calls Q1.out c0 OK.out.val OK.out.rng).mono ?_; rw [HT.out]; rintro e w' ⟨rfl, rfl⟩) | (go_at_call 75; refine RW.out.mono ?_; rintro e w2 ⟨rfl, R2, u2, q3, k3, hU⟩; have Q3 := Lib.hid q3; have K3 := Lib.hid k3; have HU := Lib.hid hU; clear q3 k3 hU))
            go_roundg (gk - 1)
            case measure => omega
            case rel => exact ⟨k + 1, m, _, R2, u2, by go_num, rfl, by omega, by omega, VFQ.out.moved (by rw [HT.out]; exact hle) HBT.out, Q3, by have := HU.out.2.2 l hUl.out.1 hUl.out.2; rw [HWQ2.out.1] at this; rw [this]; exact HR1, K1.out.trans K3.out⟩
          case' false =>
            have HB : Hid (t ≤ 0 → (q2.rewatch i).2 = false) := fun _ => hb
            have HBF := Lib.hid hb
            rw [hb] at RW
            clear hb
            go_upto_region 10 with (first | (go_at_call 61; refine (truth_calls Q1.out c0 OK.out.val OK.out.rng).mono ?_; rw [HT.out]; rintro e w' ⟨rfl, rfl⟩) | (go_at_call 75; refine RW.out.mono ?_; rintro e w2 ⟨rfl, R2, u2, q3, k3, hU⟩; have Q3 := Lib.hid q3; have K3 := Lib.hid k3; have HU := Lib.hid hU; clear q3 k3 hU))
            refine cutW (fun w2 => ∃ R2 u2, Hid (Rep R2 w2 g T ext u2 q2) ∧ Hid (u2.crow.getD i undef = .slice (some ⟨db, 0, none⟩) d.length dc) ∧ Hid (u2.wrow.getD j undef = .slice (some ⟨rb, 0, none⟩) len rc) ∧ Hid (Chg PRole R w R2 w2)) ⟨R2, u2, ?_, ?_, ?_, K1.out.trans K3.out⟩ ?_
            · have := Q3.out
              rw [rewatch_false _ _ HBF.out] at this
              exact this
            · rw [HU.out.1]; exact HDA
            · have := HU.out.2.2 l hUl.out.1 hUl.out.2
              rw [HWQ2.out.1] at this
              rw [this]; exact HR1
        all_goals
          clear Q1 K1 d0cell HDA HR1
          rintro w2 ⟨R2, u2, Q2, HDA, HR1, K2⟩
          have ho := (Q2.out.alloc (.cells #[Value.int .i64 i] 3)).wrow j hj2
          rw [HR1.out, ← HWQ2.out.2] at ho
          have hd2' := Q2.out.dom.alloc (.cells #[Value.int .i64 i] 3)
          have HO := Lib.hid ho
          have HD2 := Lib.hid hd2'
          have hlq : (q2.watch l).length = len := VFQ.out.len_
          have HLQ := Lib.hid hlq
          clear ho hd2' hlq
          go_wp2_with (at_builtin; refine wpList_app_in Try.underlying23 info3 rfl _ _ rfl HO.out HD2.out rfl _ 1 1 [.int .i64 i] rfl rfl (cell_one_new _ _ _) (by simp [Value.oneCell']) (by have := HLQ.out; rw [ints_length]; omega) ?_)
          rintro w4 ho4 k4 hd4
          have q4 : Hid (Rep R2 w4 g T ext u2 (keptAt q2 l m i)) := by
            have hset : (ints (q2.watch l)).take m ++ [Value.int .i64 i] ++ (ints (q2.watch l)).drop (m + 1) = ints ((q2.watch l).set m i) := by
              rw [← ints_set, List.set_eq_take_append_cons_drop, if_pos (by rw [ints_length, HLQ.out]; omega)]
              simp
            have ho5 : OwnS R2 w4 (5, j) 3 (.slice (some ⟨rb, 0, none⟩) len rc) (ints ((q2.watch l).set m i)) := by
              rw [← hset]; simpa using ho4
            have := (Q2.out.alloc (.cells #[Value.int .i64 i] 3)).rowNew hj2 k4 hd4 (by rw [HR1.out]; exact ho5)
            unfold keptAt PS.putWatch
            rw [HWQ2.out.1]
            exact this
          have k5 : Hid (Chg PRole R w R2 w4) := (K2.out.trans (Chg.alloc PRole w2 Q2.out.dom _)).trans (k4.mono (by simp))
          clear ho4 k4 hd4 HO HD2
          go_upto_region 11 with (fail)
          refine cutW (fun w2 => Hid (Rep R2 w2 g T ext u2 (keptAt q2 l m i)) ∧ Hid (Chg PRole R w R2 w2)) ⟨q4, k5⟩ ?_
          clear q4 k5 Q2 K2
          rintro w2 ⟨Q2, K2⟩
          have hdlk : (((keptAt q2 l m i).cls).getD i []).length = d.length := HDL.out.symm
          obtain ⟨da', dc', hda', -, -, dcells⟩ := Q2.out.atCrow (k := i) hic2
          have e := HDA.out.symm.trans hda'
          rw [hdlk] at e
          simp only [Value.slice.injEq, true_and] at e
          obtain ⟨rfl, rfl⟩ := e
          obtain ⟨_, e, d0cell, -, -⟩ := dcells 0 (by rw [hdlk]; exact i0)
          cases e
          rw [show ((keptAt q2 l m i).cls.getD i []).getD 0 0 = c0 from VFQ.out.c0_] at d0cell
          have HT2 : Hid ((keptAt q2 l m i).truth c0 = t) := HT
          have OK2 : Hid (LitOk (keptAt q2 l m i) c0) := ⟨OK.out.val, OK.out.rea, OK.out.rng⟩
          clear hdlk hda' dcells
          obtain hz | hp | hneg : t = 0 ∨ 0 < t ∨ t < 0 := by omega
          · first
              | (exfalso; omega)
              | (subst hz
                 have vz := Lib.hid (VFQ.out.keptZero HT.out (HB.out (by omega)))
                 have htl : (keptAt q2 l m i).tra.length < 1000000000 := by
                   have := VFQ.out.tra
                   show q2.tra.length < _
                   omega
                 have hvl : (keptAt q2 l m i).val.length ≤ 1000000000 := by
                   have := VFQ.out.wf.val
                   have := VFQ.out.wf.nmax
                   show q2.val.length ≤ _
                   omega
                 have HS := Lib.hid (set_calls Q2.out c0 i OK2.out.val OK2.out.rea hvl htl)
                 clear htl hvl
                 go_wp2_with (first | (go_at_call 61; refine (truth_calls Q2.out c0 OK2.out.val OK2.out.rng).mono ?_; rw [HT2.out]; rintro e w' ⟨rfl, rfl⟩) | (go_at_call 68; refine HS.out.mono ?_; rintro e w3 ⟨rfl, R3, u3, q3, k3, hU⟩; have Q3 := Lib.hid q3; have K3 := Lib.hid k3; have HU := Lib.hid hU; clear q3 k3 hU))
                 go_roundg (gk - 1)
                 case measure => omega
                 case rel => exact ⟨k + 1, m + 1, _, R3, u3, by go_num, rfl, by omega, by omega, vz, Q3, by rw [HU.out]; exact HR1, K2.out.trans K3.out⟩)
          · have bz : (t == 0) = false := beq_eq_false_iff_ne.2 (by omega)
            first
              | (exfalso; omega)
              | (have vt := Lib.hid (VFQ.out.keptTrue (by rw [HT.out]; exact hp))
                 go_wp2_with (first | (go_at_call 61; refine (truth_calls Q2.out c0 OK2.out.val OK2.out.rng).mono ?_; rw [HT2.out]; rintro e w' ⟨rfl, rfl⟩))
                 go_roundg (gk - 1)
                 case measure => omega
                 case rel => exact ⟨k + 1, m + 1, _, R2, u2, by go_num, rfl, by omega, by omega, vt, Q2, HR1, K2⟩)
          · have bz : (t == 0) = false := beq_eq_false_iff_ne.2 (by omega)
            first
              | (exfalso; omega)
              | (have vc := Lib.hid (VFQ.out.conflict (by rw [HT.out]; exact hneg) (HB.out (by omega)))
                 have h8 := Q2.out.cells.2.2.2.2.2.2.2.2.1
                 have f8 := Q2.out.free 8
                 have q3 := Lib.hid (Q2.out.putFal i)
                 have k3 : Hid (Chg PRole R w R2 (w2.setCell ⟨g, 8, none⟩ (.int .i64 i))) := K2.out.cellG Q2.out.dom Q2.out.rg (by simp) 8 _
                 go_upto_region 15 with (first | (go_at_call 61; refine (truth_calls Q2.out c0 OK2.out.val OK2.out.rng).mono ?_; rw [HT2.out]; rintro e w' ⟨rfl, rfl⟩))
                 refine cutW (fun w2 => Hid (Rep R2 w2 g T ext u2 { keptAt q2 l m i with fal := i }) ∧ Hid (Chg PRole R w R2 w2)) ⟨q3, k3⟩ ?_
                 clear h8 f8 q3 k3 Q2 K2 d0cell HT2 OK2
                 rintro w2 ⟨Q2, K2⟩
                 have hwatch4 : (keptAt q2 l m i).wat.getD j [] = (q2.watch l).set m i := by
                   have e1 := VFQ.out.keptWatch
                   have e2 : (keptAt q2 l m i).row l = j := HWQ2.out.1
                   unfold PS.watch at e1
                   rw [e2] at e1
                   exact e1
                 have hj4 : j < (keptAt q2 l m i).wat.length := by
                   simp only [keptAt, PS.putWatch, List.length_set]; exact hj2
                 have ho := Q2.out.drew.wrow j hj4
                 rw [HR1.out, hwatch4] at ho
                 have HO := Lib.hid ho
                 have hlq4 : ((q2.watch l).set m i).length = len := by rw [List.length_set]; exact HLQ.out
                 have HLQ4 := Lib.hid hlq4
                 have HD4 := Lib.hid Q2.out.drew.dom
                 obtain ⟨wb2, wc2, h2, wcell, wf, WE2, WR2⟩ := Q2.out.atWat hj4
                 rw [show (keptAt q2 l m i).wat.length = p.wat.length from by simp only [keptAt, PS.putWatch, List.length_set]; exact VFQ.out.wl] at h2 WE2
                 have h3 := Q2.out.cells.2.2.2.1
                 rw [show (keptAt q2 l m i).n = p.n from VFQ.out.n] at h3
                 have hne := Q2.out.neG WR2.out (by simp)
                 have d2 : w2.drew.cell? ⟨g, 2, none⟩ = some (.slice (some ⟨wb2, 0, none⟩) p.wat.length wc2) := h2
                 have d3 : w2.drew.cell? ⟨g, 3, none⟩ = some (.int .i64 p.n) := h3
                 have dw : w2.drew.cell? ⟨wb2, j, none⟩ = some (u2.wrow.getD j undef) := wcell
                 have df : w2.drew.frozen? ⟨wb2, j, none⟩ = false := wf
                 have hk1 : IntKind.i64.wrap ((k : Int) + 1) = ((k + 1 : Nat) : Int) := by rw [IntWalk.i64_in _ (by omega)]; omega
                 have hk2 : k + 1 ≤ len := by omega
                 have hk3 : k + 1 ≤ rc := by omega
                 have hk2' : (k : Int) + 1 ≤ (len : Int) := by omega
                 have hk0' : (0 : Int) ≤ (k : Int) + 1 := by omega
                 obtain ⟨ad, hite, had⟩ : ∃ ad : Addr, (if rc = k + 1 then some (⟨rb, 0, none⟩ : Addr) else some ⟨rb, k + 1, none⟩) = some ad ∧ (k + 1 < len → ad = ⟨rb, k + 1, none⟩) := by
                   by_cases hcap : rc = k + 1
                   · exact ⟨⟨rb, 0, none⟩, if_pos hcap, fun h => by omega⟩
                   · exact ⟨⟨rb, k + 1, none⟩, if_neg hcap, fun _ => rfl⟩
                 have HAD := Lib.hid had
                 clear had
                 clear hwatch4 ho hlq4 h2 h3 wcell wf
                 refine wp_region_seq (fun w' => w'.cell? ⟨g, 2, none⟩ = some (.slice (some ⟨wb2, 0, none⟩) p.wat.length wc2) ∧ w'.cell? ⟨g, 3, none⟩ = some (.int .i64 p.n)) [17]
                   [(0, 2), (1, 2), (2, 2), (3, 1), (4, 2), (5, 2), (6, 2), (7, 1), (8, 2), (9, 2), (10, 2), (11, 2), (12, 2), (13, 2), (14, 2), (15, 0), (16, 2), (17, 0)]
                   (by kernel_rfl) (by kernel_rfl) (fun c a d v w h => by cases d <;> exact h) (by kernel_rfl) ⟨d2, d3⟩ ?_
                 repeat
                   first
                     | refine wpSeqN_quiet (v := ?_) rfl (Or.inl ⟨rfl, ?_⟩) ?_
                     | refine wpSeqN_pure (v := ?_) rfl (Or.inl ⟨rfl, ?_⟩) ?_
                   rotate_left
                   focus (intro w hSw; (try dsimp only at hSw); first | (go_simp; done) | (go_simp; with_reducible rfl))
                   simp only [Act.put, List.setIfInBounds_toArray, List.set_cons_zero, List.set_cons_succ]
                 refine wpSeqN_loud rfl (fun K hK => ?_)
                 refine step_app_in Try.underlying23 info3 rfl _ _ rfl HO.out HD4.out rfl ad (len - (k + 1)) (rc - (k + 1)) (ints (((q2.watch l).set m i).drop (k + 1))) rfl ?_ ?_ (ints_one _) ?_ ?_
                 · rw [ints_length, List.length_drop, HLQ4.out]
                 · intro x u' hx
                   by_cases hlast : k + 1 < len
                   · rw [HAD.out hlast]
                     exact HO.out.drop_cells (k + 1) x u' hx
                   · rw [List.drop_eq_nil_of_le (by rw [HLQ4.out]; omega)] at hx
                     cases hx
                 · rw [ints_length, HLQ4.out]; omega
                 intro w5 ho5 k5 hd5
                 have g2 := k5.cell d2 (fun r hr => by rw [Q2.out.rg] at hr; cases hr; simp)
                 have g3 := k5.cell d3 (fun r hr => by rw [Q2.out.rg] at hr; cases hr; simp)
                 have gw := k5.cell dw (fun r hr => by rw [WR2.out] at hr; cases hr; simp)
                 have gf := k5.frozen (Q2.out.dom _ _ WR2.out) df (fun r hr => by rw [WR2.out] at hr; cases hr; simp)
                 refine hK.out _ _ (fun _ => ⟨g2, g3⟩) ?_
                 clear hK K
                 try simp only [Act.put, List.setIfInBounds_toArray, List.set_cons_zero, List.set_cons_succ]
                 have HO5 := Lib.hid (And.intro ho5 (And.intro k5 hd5))
                 clear ho5 k5 hd5 d2 d3 dw df
                 repeat
                   first
                     | refine wpSeqN_quiet (v := ?_) rfl (Or.inl ⟨rfl, ?_⟩) ?_
                     | refine wpSeqN_pure (v := ?_) rfl (Or.inl ⟨rfl, ?_⟩) ?_
                   rotate_left
                   focus (intro w hSw; (try dsimp only at hSw); first | (go_simp; done) | (go_simp; with_reducible rfl))
                   simp only [Act.put, List.setIfInBounds_toArray, List.set_cons_zero, List.set_cons_succ]
                 refine wpSeqN_loud rfl (fun K hK => ?_)
                 go_simp
                 refine hK.out _ _ (fun h => absurd h (by decide)) ?_
                 clear hK K
                 try simp only [Act.put, List.setIfInBounds_toArray, List.set_cons_zero, List.set_cons_succ]
                 refine wpSeqN_nil ?_
                 go_upto_region 16 with (fail)
                 refine cutW (fun w2 => ∃ R6 u6, Hid (Rep R6 w2 g T ext u6 (p.visit l).1) ∧ Hid (Chg PRole R w R6 w2)) ?_ ?_
                 · obtain ⟨ho5, k5, hd5⟩ := HO5.out
                   have ho6 := ho5.take (m + 1 + (len - (k + 1))) (by rw [List.length_append, List.length_append, List.length_take, List.length_drop, ints_length, ints_length, List.length_drop, HLQ4.out]; omega)
                   rw [List.take_left' (by rw [List.length_append, List.length_take, ints_length, ints_length, List.length_drop, HLQ4.out]; omega), ints_take, ints_append] at ho6
                   have q6 := Q2.out.drew.putRow hj4 k5 hd5 WE2.out WR2.out ho6
                   refine ⟨R2, { u2 with wrow := u2.wrow.set j (.slice (some ⟨rb, 0, none⟩) (m + 1 + (len - (k + 1))) rc) }, ?_, ?_⟩
                   · rw [vc.out]
                     have hr : (keptAt q2 l m i).row l = j := HWQ2.out.1
                     simp only [PS.putWatch, hr]
                     exact q6
                   · exact ((K2.out.drew.trans (k5.mono (by simp))).cellG hd5 WR2.out (by simp) j _)
                 rintro w6 ⟨R6, u6, Q6, K6⟩
                 go_wp2
                 go_ret
                 have e := vc.out
                 have hv2 : (p.visit l).2 = false := by rw [e]
                 rw [hv2]
                 exact ⟨rfl, R6, u6, Q6.out, K6.out⟩)
    · obtain rfl : k = len := by omega
      have VD := Lib.hid VQ.out.done
      have HWF := Lib.hid (VQ.out.wf)
      have hlq : (q.watch l).length = k := VQ.out.len_
      have ho := Q1.out.drew.wrow j hjq
      rw [HR1.out, ← HWQ.out.2] at ho
      have HO := Lib.hid (And.intro ho hlq)
      obtain ⟨wb2, wc2, h2, wcell, wf, WE2, WR2⟩ := Q1.out.atWat hjq
      rw [show q.wat.length = p.wat.length from VQ.out.wl] at h2 WE2
      have h3 := Q1.out.cells.2.2.2.1
      rw [VQ.out.n] at h3
      have d2 : wr.drew.cell? ⟨g, 2, none⟩ = some (.slice (some ⟨wb2, 0, none⟩) p.wat.length wc2) := h2
      have d3 : wr.drew.cell? ⟨g, 3, none⟩ = some (.int .i64 p.n) := h3
      have dw : wr.drew.cell? ⟨wb2, j, none⟩ = some (u1.wrow.getD j undef) := wcell
      have df : wr.drew.frozen? ⟨wb2, j, none⟩ = false := wf
      clear ho hlq h2 h3 wcell wf VQ
      go_upto_region 18 with (fail)
      refine wp_region_seq (fun w' => w'.cell? ⟨g, 2, none⟩ = some (.slice (some ⟨wb2, 0, none⟩) p.wat.length wc2) ∧ w'.cell? ⟨g, 3, none⟩ = some (.int .i64 p.n)) [12]
        [(0, 2), (1, 2), (2, 2), (3, 1), (4, 2), (5, 2), (6, 2), (7, 1), (8, 2), (9, 2), (10, 2), (11, 2), (12, 0)]
        (by kernel_rfl) (by kernel_rfl) (fun c a d v w h => by cases d <;> exact h) (by kernel_rfl) ⟨d2, d3⟩ ?_
      repeat
        first
          | refine wpSeqN_quiet (v := ?_) rfl (Or.inl ⟨rfl, ?_⟩) ?_
          | refine wpSeqN_pure (v := ?_) rfl (Or.inl ⟨rfl, ?_⟩) ?_
        rotate_left
        focus (intro w hSw; (try dsimp only at hSw); first | (go_simp; done) | (go_simp; with_reducible rfl))
        simp only [Act.put, List.setIfInBounds_toArray, List.set_cons_zero, List.set_cons_succ]
      refine wpSeqN_loud rfl (fun K hK => ?_)
      go_simp
      refine hK.out _ _ (fun h => absurd h (by decide)) ?_
      clear hK K
      try simp only [Act.put, List.setIfInBounds_toArray, List.set_cons_zero, List.set_cons_succ]
      refine wpSeqN_nil ?_
      go_upto_region 19 with (fail)
      refine cutW (fun w2 => ∃ R6 u6, Hid (Rep R6 w2 g T ext u6 (p.visit l).1) ∧ Hid (Chg PRole R w R6 w2)) ?_ ?_
      · have ho6 := HO.out.1.take m (by rw [ints_length, HO.out.2]; exact hm)
        rw [ints_take] at ho6
        have q6 := Q1.out.drew.putRow hjq (Chg.refl _ _ _ Q1.out.drew.dom) Q1.out.drew.dom WE2.out WR2.out ho6
        refine ⟨R1, { u1 with wrow := u1.wrow.set j (.slice ra m rc) }, ?_, ?_⟩
        · rw [VD.out]
          simp only [PS.putWatch, HWQ.out.1]
          exact q6
        · exact (K1.out.drew.cellG Q1.out.drew.dom WR2.out (by simp) j _)
      rintro w6 ⟨R6, u6, Q6, K6⟩
      go_wp2
      go_ret
      have e := VD.out
      have hv2 : (p.visit l).2 = true := by rw [e]
      rw [hv2]
      exact ⟨rfl, R6, u6, Q6.out, K6.out⟩
end Go.Proofs.Ytjbdiobnlmhidaa
