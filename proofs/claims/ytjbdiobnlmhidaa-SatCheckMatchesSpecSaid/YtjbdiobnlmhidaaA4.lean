/- Proved here: adding, resetting and assuming do what the plain propagator does. Conditions: those that each theorem states. -/
import Derived.Test.YtjbdiobnlmhidaaA3
import Derived.RegionTactic
import Derived.BigRegion
set_option linter.unusedVariables false
set_option linter.unusedSimpArgs false
namespace Go.Proofs.Ytjbdiobnlmhidaa
open Go Go.RowKit

/-- what is kept from step to step of a propagation -/
structure StepInv (I : PS → Prop) : Prop where
  wf : ∀ q, I q → WF q
  tb : ∀ q, I q → q.tra.length ≤ 100000000
  rows : ∀ q, I q → ∀ j, (q.wat.getD j []).length ≤ 100000000
  ub : ∀ q, I q → q.uni.length ≤ 100000000
  unit : ∀ q i, I q → i ∈ q.uni → I (q.unit i).1
  head : ∀ q, I q → 0 ≤ q.head
  neg : ∀ q, I q → q.head < q.tra.length → q.truth (-(q.tra.getD q.head.toNat 0)) < 0
  visit : ∀ q, I q → q.head < q.tra.length → I (({ q with head := q.head + 1 } : PS).visit (-(q.tra.getD q.head.toNat 0))).1

theorem unit_uni (p : PS) (i : Int) : (p.unit i).1.uni = p.uni := by
  unfold PS.unit
  split
  · rfl
  · split
    · rfl
    · split <;> rfl

set_option maxRecDepth 100000 in
set_option maxHeartbeats 16000000 in
theorem propagate_calls {I : PS → Prop} (SI : StepInv I) {R : Roles} {w : World} {g T : Nat} {ext : List Value} {u : PV} {p : PS} (h : Rep R w g T ext u p) (hI : I p) {r : Nat} {res : PS × Bool} (hr : PS.propagate r p = some res) :
    Calls Try.prog 54 #[.pointer (some ⟨g, 0, none⟩)] w (PPost R w g T ext res.1 (.bool res.2)) := by
  obtain ⟨ua, uc, hua, hu1, hu2, -, -⟩ := h.uni.form
  rw [ints_length] at hua hu1
  have h1 := h.cells.2.1
  rw [hua] at h1
  have hul := SI.ub _ hI
  have H := Lib.hid h
  have HUA := Lib.hid hua
  have HR := Lib.hid hr
  have HI := Lib.hid hI
  have HSI := Lib.hid SI
  unfold maxLen at hu2
  clear h hua hr hI SI
  go_enter Try.func54, Try.ntmps54
  go_wp2_with fail
  go_loopg [11] p.uni.length (fun kq v11 w' => ∃ (k : Nat) (q : PS) (R1 : Roles) (u1 : PV), v11 = .int .i64 k ∧ k + kq = p.uni.length ∧ Hid (I q) ∧ Hid (q.uni = p.uni) ∧ Hid (u1.uni = u.uni) ∧ Hid (PS.unitsGo (p.uni.drop k) q = PS.unitsGo p.uni p) ∧ Hid (Rep R1 w' g T ext u1 q) ∧ Hid (Chg PRole R w R1 w'))
  case atStart => exact ⟨0, p, R, u, rfl, by omega, HI, rfl, rfl, rfl, H, Chg.refl _ _ _ H.out.dom⟩
  case round =>
    obtain ⟨k, q, R1, u1, rfl, hk, HIq, HUq, HUu, HG, Q1, K1⟩ := hrel
    clear h1
    by_cases hlt : k < p.uni.length
    · obtain ⟨b, c', -, kcell, -, E, -⟩ := Q1.out.atUni (i := k) (by rw [HUq.out]; exact hlt)
      have eA := HUA.out.symm.trans (HUu.out.symm.trans E.out)
      rw [HUq.out] at eA kcell
      cases eA
      have hmem : p.uni.getD k 0 ∈ q.uni := by rw [HUq.out]; exact getD_mem hlt
      obtain ⟨i, hi, hic⟩ := (HSI.out.wf q HIq.out).uni _ hmem
      have hdrop : p.uni.drop k = (i : Int) :: p.uni.drop (k + 1) := by
        rw [List.drop_eq_getElem_cons hlt, ← hi]; simp [hlt]
      rw [hi] at kcell hmem
      have hq1 : q.cls.length ≤ 1000000000000 := by have := (HSI.out.wf q HIq.out).cnum; omega
      have HC := Lib.hid (unit_calls Q1.out i hic (fun h0 => by
          rw [clause_nat] at h0 ⊢
          exact (HSI.out.wf q HIq.out).litOk ((HSI.out.wf q HIq.out).lit _ (getD_mem hic) _ (getD_mem h0)))
        (by have := (HSI.out.wf q HIq.out).val; have := (HSI.out.wf q HIq.out).nmax; omega) (by have := HSI.out.tb q HIq.out; omega) hq1)
      have HN := Lib.hid (HSI.out.unit q i HIq.out hmem)
      have HDR := Lib.hid hdrop
      clear hmem hi hdrop
      rcases hb : (q.unit (i : Int)).2 with _ | _
      · have HB := Lib.hid hb
        rw [hb] at HC
        clear hb
        go_wp2_with (go_at_call 69; refine HC.out.mono ?_; rintro e w' ⟨rfl, R2, u2, q2, k2, -⟩; have Q2 := Lib.hid q2; have K2 := Lib.hid k2; clear q2 k2)
        go_ret
        have hres : res = ((q.unit i).1, false) := by
          have := HR.out
          unfold PS.propagate at this
          rw [← HG.out, HDR.out] at this
          simp only [PS.unitsGo, HB.out, Bool.false_eq_true, if_false] at this
          exact (Option.some.inj this).symm
        rw [hres]
        exact ⟨rfl, R2, u2, Q2.out, K1.out.trans K2.out⟩
      · have HB := Lib.hid hb
        rw [hb] at HC
        clear hb
        go_wp2_with (go_at_call 69; refine HC.out.mono ?_; rintro e w' ⟨rfl, R2, u2, q2, k2, hU⟩; have Q2 := Lib.hid q2; have K2 := Lib.hid k2; have HU := Lib.hid hU; clear q2 k2 hU)
        go_roundg (gk - 1)
        case measure => omega
        case rel => exact ⟨k + 1, _, R2, u2, by go_num, by omega, HN, by rw [unit_uni]; exact HUq, by rw [HU.out]; exact HUu, by
          show PS.unitsGo _ _ = PS.unitsGo _ _
          rw [← HG.out, HDR.out]; simp only [PS.unitsGo, HB.out, if_true], Q2, K1.out.trans K2.out⟩
    · obtain rfl : k = p.uni.length := by omega
      have HL : Hid (PS.loop r q = some res) := by
        have := HR.out
        unfold PS.propagate at this
        rw [← HG.out, List.drop_length] at this
        simp only [PS.unitsGo, if_true] at this
        exact this
      clear HG
      clear HUu HUq HR HI
      obtain ⟨wo, rfl⟩ : ∃ wo : World, wo = wr := ⟨_, rfl⟩
      go_wp2_with fail
      go_loopg [] r (fun kq w' => ∃ (q : PS) (R1 : Roles) (u1 : PV), Hid (I q) ∧ Hid (PS.loop kq q = some res) ∧ Hid (Rep R1 w' g T ext u1 q) ∧ Hid (Chg PRole R w R1 w'))
      case atStart => exact ⟨q, R1, u1, HIq, HL, Q1, K1⟩
      case round =>
        clear HL Q1 K1 HIq
        obtain ⟨q, R1, u1, HIq, HL, Q1, K1⟩ := hrel
        have hd0 := HSI.out.head q HIq.out
        obtain ⟨hd, hhd⟩ : ∃ hd : Nat, q.head = hd := ⟨q.head.toNat, by omega⟩
        have h7 := Q1.out.cells.2.2.2.2.2.2.2.1
        rw [hhd] at h7
        obtain ⟨ta, tc, hta, ht1, ht2, -, -⟩ := Q1.out.tra.form
        rw [ints_length] at hta ht1
        have h6 := Q1.out.cells.2.2.2.2.2.2.1
        rw [hta] at h6
        have f7 := Q1.out.free 7
        have HHD := Lib.hid hhd
        have HTA := Lib.hid hta
        have htb := HSI.out.tb q HIq.out
        unfold maxLen at ht2
        clear hhd hta hd0
        have d6 : wr.drew.cell? ⟨g, 6, none⟩ = some (.slice ta q.tra.length tc) := h6
        have d7 : wr.drew.cell? ⟨g, 7, none⟩ = some (.int .i64 (hd : Int)) := h7
        by_cases hlt : hd < q.tra.length
        · obtain ⟨tb, tc', -, tcell, -, TE, -⟩ := Q1.out.atTra hlt
          have eT := HTA.out.symm.trans TE.out
          cases eT
          have hx : q.tra.getD hd 0 = q.tra.getD q.head.toNat 0 := by rw [HHD.out]; rfl
          have hlt2 : q.head < q.tra.length := by rw [HHD.out]; omega
          have hneg := HSI.out.neg q HIq.out hlt2
          have hvis := HSI.out.visit q HIq.out hlt2
          rw [← hx] at hneg hvis
          have htl : Lit q.n (q.tra.getD hd 0) := (HSI.out.wf q HIq.out).tra _ (getD_mem hlt)
          generalize hxe : q.tra.getD hd 0 = x at *
          have hxn : x.natAbs ≤ 100000000 := by have := htl.2; have := (HSI.out.wf q HIq.out).nmax; omega
          have hl : Lit q.n (-x) := ⟨by have := htl.1; omega, by have := htl.2; rw [Int.natAbs_neg]; exact this⟩
          have HX := Lib.hid (And.intro hneg (And.intro hvis (And.intro hl (And.intro hlt2 (And.intro hx hxe)))))
          have hxr : -100000000 ≤ x ∧ x ≤ 100000000 := by omega
          obtain ⟨hxr1, hxr2⟩ := hxr
          clear hneg hvis hl hlt2 hx hxe htl hxn
          have hwx : IntKind.i64.wrap (-x) = -x := by rw [IntWalk.i64_in _ (by omega)]
          have hdl : (hd : Int) < (q.tra.length : Int) := by omega
          have hd0 : (0 : Int) ≤ (hd : Int) := by omega
          go_wp2_with fail
          refine wp_region_seq (fun w' => w'.cell? ⟨g, 6, none⟩ = some (.slice (some ⟨tb, 0, none⟩) q.tra.length tc) ∧ w'.cell? ⟨g, 7, none⟩ = some (.int .i64 (hd : Int))) []
            [(0, 2), (1, 2), (2, 2), (3, 1), (4, 2), (5, 2), (6, 2), (7, 1), (8, 2), (9, 2)]
            (by kernel_rfl) (by kernel_rfl) (fun c a d v w h => by cases d <;> exact h) (by kernel_rfl) ⟨d6, d7⟩ ?_
          repeat
            first
              | refine wpSeqN_quiet (v := ?_) rfl (Or.inl ⟨rfl, ?_⟩) ?_
              | refine wpSeqN_pure (v := ?_) rfl (Or.inl ⟨rfl, ?_⟩) ?_
            rotate_left
            focus (intro w hSw; (try dsimp only at hSw); first | (go_simp; done) | (go_simp; with_reducible rfl))
            simp only [Act.put, List.setIfInBounds_toArray, List.set_cons_zero, List.set_cons_succ]
          refine wpSeqN_nil ?_
          go_upto_region 8 with (fail)
          have d6 : wr.drew.drew.cell? ⟨g, 6, none⟩ = some (.slice (some ⟨tb, 0, none⟩) q.tra.length tc) := h6
          have d7 : wr.drew.drew.cell? ⟨g, 7, none⟩ = some (.int .i64 (hd : Int)) := h7
          have dt : wr.drew.drew.cell? ⟨tb, hd, none⟩ = some (.int .i64 x) := tcell
          refine wp_region_seq (fun w' => w'.cell? ⟨g, 6, none⟩ = some (.slice (some ⟨tb, 0, none⟩) q.tra.length tc) ∧ w'.cell? ⟨g, 7, none⟩ = some (.int .i64 (hd : Int)) ∧ w'.cell? ⟨tb, hd, none⟩ = some (.int .i64 x)) []
            [(0, 2), (1, 2), (2, 2), (3, 1), (4, 2), (5, 2), (6, 2), (7, 1), (8, 2), (9, 1), (10, 2), (11, 2)]
            (by kernel_rfl) (by kernel_rfl) (fun c a d v w h => by cases d <;> exact h) (by kernel_rfl) ⟨d6, d7, dt⟩ ?_
          repeat
            first
              | refine wpSeqN_quiet (v := ?_) rfl (Or.inl ⟨rfl, ?_⟩) ?_
              | refine wpSeqN_pure (v := ?_) rfl (Or.inl ⟨rfl, ?_⟩) ?_
            rotate_left
            focus (intro w hSw; (try dsimp only at hSw); first | (go_simp; done) | (go_simp; with_reducible rfl))
            simp only [Act.put, List.setIfInBounds_toArray, List.set_cons_zero, List.set_cons_succ]
          refine wpSeqN_nil ?_
          clear d6 d7 dt
          have QH := Lib.hid (Q1.out.drew.drew.putHead (hd + 1))
          have KH := Lib.hid (K1.out.drew.drew.cellG Q1.out.drew.drew.dom Q1.out.drew.drew.rg (by simp) 7 (.int .i64 ((hd : Int) + 1)))
          go_upto_region 10 with (fail)
          refine cutW (fun w2 => Hid (Rep R1 w2 g T ext u1 { q with head := q.head + 1 }) ∧ Hid (Chg PRole R w R1 w2)) ⟨?_, KH⟩ ?_
          · have e : ({ q with head := q.head + 1 } : PS) = { q with head := hd + 1 } := by rw [HHD.out]
            rw [e]
            exact QH.out
          clear QH KH Q1 K1 h6 h7 f7 tcell
          rintro w2 ⟨Q1, K1⟩
          have hwf := HSI.out.wf q HIq.out
          have hwf2 : WF ({ q with head := q.head + 1 } : PS) := ⟨hwf.n0, hwf.nmax, hwf.val, hwf.rea, hwf.wat, hwf.rng, hwf.lit, hwf.clen, hwf.cnum, hwf.ent, hwf.uni, hwf.tra⟩
          have hrows := HSI.out.rows q HIq.out
          have HC := Lib.hid (visit_calls Q1.out hwf2 (-x) HX.out.2.2.1 HX.out.1 (fun j => by have := hrows j; show (q.wat.getD j []).length ≤ _; omega) (by
            have h1 := hrows (q.row (-x))
            show q.tra.length + (q.wat.getD (q.row (-x)) []).length < _
            omega))
          have HLS : Hid (PS.loop gk q = some res) := HL
          clear hwf hwf2 hrows
          cases hgk : gk with
          | zero => rw [hgk] at HL; exact absurd HL.out (by simp [PS.loop])
          | succ g1 =>
            subst hgk
            have hloop := HL.out
            simp only [PS.loop] at hloop
            rw [if_pos HX.out.2.2.2.1, ← HX.out.2.2.2.2.1] at hloop
            have HLO := Lib.hid hloop
            clear hloop HL HLS
            rcases hb : (({ q with head := q.head + 1 } : PS).visit (-x)).2 with _ | _
            · have HB := Lib.hid hb
              rw [hb] at HC
              clear hb
              go_wp2_with (go_at_call 70; refine HC.out.mono ?_; rintro e w' ⟨rfl, R2, u2, q2, k2⟩; have Q2 := Lib.hid q2; have K2 := Lib.hid k2; clear q2 k2)
              go_ret
              have hres : res = ((({ q with head := q.head + 1 } : PS).visit (-x)).1, false) := by
                have := HLO.out
                rw [if_neg (by rw [HB.out]; simp)] at this
                exact (Option.some.inj this).symm
              rw [hres]
              exact ⟨rfl, R2, u2, Q2.out, K1.out.trans K2.out⟩
            · have HB := Lib.hid hb
              rw [hb] at HC
              clear hb
              go_wp2_with (go_at_call 70; refine HC.out.mono ?_; rintro e w' ⟨rfl, R2, u2, q2, k2⟩; have Q2 := Lib.hid q2; have K2 := Lib.hid k2; clear q2 k2)
              go_roundg g1
              case measure => omega
              case rel => exact ⟨_, R2, u2, HX.out.2.1, by
                have := HLO.out
                rw [if_pos HB.out] at this
                exact this, Q2, K1.out.trans K2.out⟩
        · have hge : ¬ (hd : Int) < (q.tra.length : Int) := by omega
          go_wp2_with fail
          refine wp_region_seq (fun w' => w'.cell? ⟨g, 6, none⟩ = some (.slice ta q.tra.length tc) ∧ w'.cell? ⟨g, 7, none⟩ = some (.int .i64 (hd : Int))) []
            [(0, 2), (1, 2), (2, 2), (3, 1), (4, 2), (5, 2), (6, 2), (7, 1), (8, 2), (9, 2)]
            (by kernel_rfl) (by kernel_rfl) (fun c a d v w h => by cases d <;> exact h) (by kernel_rfl) ⟨d6, d7⟩ ?_
          repeat
            first
              | refine wpSeqN_quiet (v := ?_) rfl (Or.inl ⟨rfl, ?_⟩) ?_
              | refine wpSeqN_pure (v := ?_) rfl (Or.inl ⟨rfl, ?_⟩) ?_
            rotate_left
            focus (intro w hSw; (try dsimp only at hSw); first | (go_simp; done) | (go_simp; with_reducible rfl))
            simp only [Act.put, List.setIfInBounds_toArray, List.set_cons_zero, List.set_cons_succ]
          refine wpSeqN_nil ?_
          cases hgk : gk with
          | zero => rw [hgk] at HL; exact absurd HL.out (by simp [PS.loop])
          | succ g1 =>
            subst hgk
            have hres : res = (q, true) := by
              have := HL.out
              simp only [PS.loop] at this
              rw [if_neg (by rw [HHD.out]; omega)] at this
              exact (Option.some.inj this).symm
            have HRES := Lib.hid hres
            clear hres
            go_wp2
            go_ret
            rw [HRES.out]
            exact ⟨rfl, R1, u1, Q1.out.drew, K1.out.drew⟩
end Go.Proofs.Ytjbdiobnlmhidaa
namespace Go.Proofs.Ytjbdiobnlmhidaa
open Go Go.RowKit

abbrev Free (R : Roles) : Nat → Prop := fun b => R b = none

theorem WF.clash {p : PS} (h : WF p) (x : Int) : WF { p with clash := x } := ⟨h.n0, h.nmax, h.val, h.rea, h.wat, h.rng, h.lit, h.clen, h.cnum, h.ent, h.uni, h.tra⟩

set_option maxRecDepth 100000 in
set_option maxHeartbeats 16000000 in
theorem assume_calls {R : Roles} {w : World} {g T : Nat} {ext : List Value} {u : PV} {p : PS} (h : Rep R w g T ext u p) (hwf : WF p) (htb : p.tra.length < 1000000000) {v : Value} {ls : List Int} (hv : RdS w (Free R) v (ints ls)) (hls : ∀ l ∈ ls, Lit p.n l) (hn : ls.length ≤ 100000000) :
    Calls Try.prog 53 #[.pointer (some ⟨g, 0, none⟩), v] w (PPost R w g T ext (p.assume ls).1 (.bool (p.assume ls).2)) := by
  obtain ⟨a, c, rfl, h1, h2⟩ := hv.form
  rw [ints_length] at *
  have hvl : p.val.length ≤ 1000000000 := by have := hwf.val; have := hwf.nmax; omega
  have HRS := Lib.hid (reset_calls h (fun l hl => (hwf.litOk (hwf.tra l hl)).val) hvl htb)
  have HV := Lib.hid hv
  have HW := Lib.hid hwf.reset
  have HLS := Lib.hid hls
  have hpn : p.reset.n = p.n := rfl
  have HPN := Lib.hid hpn
  have H := Lib.hid h
  clear h hwf hv hls hpn hvl htb
  go_enter Try.func53, Try.ntmps53
  go_wp2_with (go_at_call 67; refine HRS.out.mono ?_; rintro e w0 ⟨rfl, R0, u0, q0, k0⟩; have Q0 := Lib.hid q0; have K0 := Lib.hid k0; clear q0 k0)
  go_loopg [11] ls.length (fun kq v11 w' => ∃ (k : Nat) (q : PS) (R1 : Roles) (u1 : PV), v11 = .int .i64 k ∧ k + kq = ls.length ∧ Hid (WF q) ∧ Hid (q.n = p.n) ∧ Hid (q.tra.length ≤ k) ∧ Hid (PS.assumeGo (ls.drop k) q = p.assume ls) ∧ Hid (Rep R1 w' g T ext u1 q) ∧ Hid (Chg PRole R w R1 w'))
  case atStart => exact ⟨0, p.reset, R0, u0, rfl, by omega, HW, HPN, by show [].length ≤ 0; simp, rfl, Q0, K0⟩
  case round =>
    clear HW Q0 K0 HPN
    obtain ⟨k, q, R1, u1, rfl, hk, HWq, HN, HT, HG, Q1, K1⟩ := hrel
    by_cases hlt : k < ls.length
    · obtain ⟨b, o, rfl, kcell, -, -⟩ := (HV.out.chg K1.out).at hlt
      have hx := HLS.out _ (getD_mem (d := 0) hlt)
      have hdrop : ls.drop k = ls.getD k 0 :: ls.drop (k + 1) := by
        rw [List.drop_eq_getElem_cons hlt]; simp [hlt]
      rw [← HN.out] at hx
      generalize ls.getD k 0 = x at *
      have OK := Lib.hid (HWq.out.litOk hx)
      have HX := Lib.hid (And.intro hx hdrop)
      have tr : -1 ≤ q.truth x ∧ q.truth x ≤ 1 := by
        have := OK.out.rng
        unfold PS.truth
        split <;> omega
      generalize htt : q.truth x = t at *
      have HTT := Lib.hid htt
      have hvl : q.val.length ≤ 1000000000 := by have := HWq.out.val; have := HWq.out.nmax; omega
      have htl : q.tra.length < 1000000000 := by have := HT.out; omega
      have HS := Lib.hid (set_calls Q1.out x (-1) OK.out.val OK.out.rea hvl htl)
      clear hx hdrop htt hvl htl
      by_cases hm : t = -1
      · have bm : (t == -1) = true := by simp [hm]
        have h9 := Q1.out.cells.2.2.2.2.2.2.2.2.2
        have f9 := Q1.out.free 9
        have QC := Lib.hid (Q1.out.putClash x)
        have KC := Lib.hid (K1.out.cellG Q1.out.dom Q1.out.rg (by simp) 9 (.int .i64 x))
        have HM := Lib.hid hm
        clear hm
        go_wp2_with (go_at_call 61; refine (truth_calls Q1.out x OK.out.val OK.out.rng).mono ?_; rw [HTT.out]; rintro e w' ⟨rfl, rfl⟩)
        go_ret
        have hres : p.assume ls = ({ q with clash := x }, false) := by
          rw [← HG.out, HX.out.2]
          simp only [PS.assumeGo, HTT.out, HM.out, if_true]
        rw [hres]
        exact ⟨rfl, R1, u1, QC.out, KC.out⟩
      · have bm : (t == -1) = false := beq_eq_false_iff_ne.2 hm
        have HM := Lib.hid hm
        clear hm
        by_cases hz : t = 0
        · have bz : (t == 0) = true := by simp [hz]
          have HZ := Lib.hid hz
          clear hz
          go_wp2_with (first | (go_at_call 61; refine (truth_calls Q1.out x OK.out.val OK.out.rng).mono ?_; rw [HTT.out]; rintro e w' ⟨rfl, rfl⟩) | (go_at_call 68; refine HS.out.mono ?_; rintro e w3 ⟨rfl, R3, u3, q3, k3, -⟩; have Q3 := Lib.hid q3; have K3 := Lib.hid k3; clear q3 k3))
          go_roundg (gk - 1)
          case measure => omega
          case rel => exact ⟨k + 1, _, R3, u3, by go_num, by omega, HWq.out.set HX.out.1 _, HN, by have := HT.out; show (q.tra ++ [x]).length ≤ _; simp; omega, by
            show PS.assumeGo _ _ = _
            rw [← HG.out, HX.out.2]
            simp only [PS.assumeGo, HTT.out, if_neg HM.out, if_pos HZ.out], Q3, K1.out.trans K3.out⟩
        · have bz : (t == 0) = false := beq_eq_false_iff_ne.2 hz
          have HZ := Lib.hid hz
          clear hz
          go_wp2_with (first | (go_at_call 61; refine (truth_calls Q1.out x OK.out.val OK.out.rng).mono ?_; rw [HTT.out]; rintro e w' ⟨rfl, rfl⟩))
          go_roundg (gk - 1)
          case measure => omega
          case rel => exact ⟨k + 1, _, R1, u1, by go_num, by omega, HWq, HN, by have := HT.out; show q.tra.length ≤ _; omega, by
            show PS.assumeGo _ _ = _
            rw [← HG.out, HX.out.2]
            simp only [PS.assumeGo, HTT.out, if_neg HM.out, if_neg HZ.out], Q1, K1⟩
    · obtain rfl : k = ls.length := by omega
      have hres : p.assume ls = (q, true) := by
        rw [← HG.out, List.drop_length]
        rfl
      have HRES := Lib.hid hres
      clear hres
      go_wp2
      go_ret
      rw [HRES.out]
      exact ⟨rfl, R1, u1, Q1.out, K1.out⟩

set_option maxHeartbeats 4000000 in
theorem refutes_calls {I : PS → Prop} (SI : StepInv I) {R : Roles} {w : World} {g T : Nat} {ext : List Value} {u : PV} {p : PS} (h : Rep R w g T ext u p) (hwf : WF p) (htb : p.tra.length < 1000000000) {v : Value} {ls : List Int} (hv : RdS w (Free R) v (ints ls)) (hls : ∀ l ∈ ls, Lit p.n l) (hn : ls.length ≤ 100000000)
    (hI : I (p.assume ls).1) {r : Nat} {res : PS × Bool} (hr : PS.refutes r p ls = some res) :
    Calls Try.prog 36 #[.pointer (some ⟨g, 0, none⟩), v] w (PPost R w g T ext res.1 (.bool res.2)) := by
  obtain ⟨a, c, rfl, h1, h2⟩ := hv.form
  rw [ints_length] at *
  have HA := Lib.hid (assume_calls h hwf htb hv hls hn)
  have HR := Lib.hid hr
  have HI := Lib.hid hI
  have HS := Lib.hid SI
  clear h hwf htb hv hls hr hI SI
  rcases hb : (p.assume ls).2 with _ | _
  · have hres : res = ((p.assume ls).1, true) := by
      have := HR.out
      unfold PS.refutes at this
      rw [if_neg (by rw [hb]; simp)] at this
      exact (Option.some.inj this).symm
    have HRES := Lib.hid hres
    rw [hb] at HA
    clear hb hres
    go_enter Try.func36, Try.ntmps36
    go_wp2_with (go_at_call 53; refine HA.out.mono ?_; rintro e w0 ⟨rfl, R0, u0, q0, k0⟩; have Q0 := Lib.hid q0; have K0 := Lib.hid k0; clear q0 k0)
    go_ret
    rw [HRES.out]
    exact ⟨rfl, R0, u0, Q0.out, K0.out⟩
  · obtain ⟨q, hq, hres⟩ : ∃ q, PS.propagate r (p.assume ls).1 = some q ∧ res = (q.1, !q.2) := by
      have := HR.out
      unfold PS.refutes at this
      rw [if_pos hb, Option.map_eq_some_iff] at this
      obtain ⟨q, h1, h2⟩ := this
      exact ⟨q, h1, h2.symm⟩
    have HQ := Lib.hid hq
    rw [hb] at HA
    subst hres
    clear hb hq
    obtain ⟨q1, qb⟩ := q
    cases qb
    · go_enter Try.func36, Try.ntmps36
      go_wp2_with (first | (go_at_call 53; refine HA.out.mono ?_; rintro e w0 ⟨rfl, R0, u0, q0, k0⟩; have Q0 := Lib.hid q0; have K0 := Lib.hid k0; clear q0 k0) | (go_at_call 54; refine (propagate_calls HS.out Q0.out HI.out HQ.out).mono ?_; rintro e w3 ⟨rfl, R3, u3, q3, k3⟩; have Q3 := Lib.hid q3; have K3 := Lib.hid k3; clear q3 k3))
      go_ret
      exact ⟨rfl, R3, u3, Q3.out, K0.out.trans K3.out⟩
    · go_enter Try.func36, Try.ntmps36
      go_wp2_with (first | (go_at_call 53; refine HA.out.mono ?_; rintro e w0 ⟨rfl, R0, u0, q0, k0⟩; have Q0 := Lib.hid q0; have K0 := Lib.hid k0; clear q0 k0) | (go_at_call 54; refine (propagate_calls HS.out Q0.out HI.out HQ.out).mono ?_; rintro e w3 ⟨rfl, R3, u3, q3, k3⟩; have Q3 := Lib.hid q3; have K3 := Lib.hid k3; clear q3 k3))
      go_ret
      exact ⟨rfl, R3, u3, Q3.out, K0.out.trans K3.out⟩
end Go.Proofs.Ytjbdiobnlmhidaa
namespace Go.Proofs.Ytjbdiobnlmhidaa
open Go Go.RowKit

theorem ownsRow_set {base E n b c : Nat} {w : World} {xs : List Value} (h : w.ownsRow base E 1 (.slice (some ⟨b, 0, none⟩) n c) n xs) (i : Nat) (u : Value) :
    (w.setCell ⟨b, i, none⟩ u).ownsRow base E 1 (.slice (some ⟨b, 0, none⟩) n c) n (xs.set i u) := by
  obtain ⟨h0, ⟨h1, _⟩ | ⟨g, cap, cur, h1, hb, hg, hn, hc, hs, ht⟩⟩ := h
  · cases h1
  · cases h1
    refine ⟨by simpa using h0, .inr ⟨b, c, _, rfl, hb, setCell_heap_same u hg, hn, hc, by simpa using hs, ?_⟩⟩
    simp only [Array.toList_setIfInBounds, Nat.mul_one] at *
    rw [List.take_set, ht]

theorem ownsRow_base {base base' E n : Nat} {w : World} {v : Value} {xs : List Value} (h : w.ownsRow base E 1 v n xs) (hb : ∀ b, v.ownBlock = some b → base' ≤ b) : w.ownsRow base' E 1 v n xs := by
  obtain ⟨h0, h1 | ⟨g, cap, cur, rfl, _, h2⟩⟩ := h
  · exact ⟨h0, .inl h1⟩
  · exact ⟨h0, .inr ⟨g, cap, cur, rfl, hb g rfl, h2⟩⟩

theorem ownsRow_cell {base E n b c : Nat} {w : World} {xs : List Value} (h : w.ownsRow base E 1 (.slice (some ⟨b, 0, none⟩) n c) n xs) {i : Nat} (hi : i < n) : w.cell? ⟨b, i, none⟩ = xs[i]? ∧ w.frozen? ⟨b, i, none⟩ = false ∧ base ≤ b := by
  obtain ⟨h0, ⟨h1, _⟩ | ⟨g, cap, cur, h1, hb, hg, hn, hc, hs, ht⟩⟩ := h
  · cases h1
  · cases h1
    refine ⟨?_, by simp [World.frozen?, hg], hb⟩
    rw [cell_of_row w b i cur E (0, 0) hg]
    have : xs[i]? = (cur.toList.take (n * 1))[i]? := by rw [ht]
    rw [this, List.getElem?_take, if_pos (by omega)]
    simp

theorem made_ints (n : Nat) : (madeCells #[Value.int .i64 0] n).toList = ints (List.replicate n 0) := by
  apply List.ext_getElem
  · simp [madeCells]
  · intro i h1 h2
    simp [madeCells, ints, Nat.mod_one]

theorem neg_step (l : List Int) (k : Nat) (h : k < l.length) : ((l.take k).map (fun x => -x) ++ List.replicate (l.length - k) 0).set k (-(l.getD k 0)) = (l.take (k + 1)).map (fun x => -x) ++ List.replicate (l.length - (k + 1)) 0 := by
  have e1 : ((l.take k).map (fun x => -x)).length = k := by simp; omega
  rw [take_snocD _ _ h, show l.length - k = (l.length - (k + 1)) + 1 from by omega, List.replicate_succ, List.set_append, e1, if_neg (by omega), Nat.sub_self]
  simp

set_option maxHeartbeats 4000000 in
theorem negated_calls {w : World} {B : Nat → Prop} {v : Value} {l : List Int} (h : RdS w B v (ints l)) (hn : l.length ≤ 1000000000) (hx : ∀ x ∈ l, -1000000000000000 ≤ x ∧ x ≤ 1000000000000000) :
    Calls Try.prog 39 #[v] w (NewPost w 3 (ints (l.map (fun x => -x)))) := by
  obtain ⟨a, c, rfl, h1, h2⟩ := h.form
  rw [ints_length] at *
  have H := Lib.hid h
  have HX := Lib.hid hx
  clear h hx
  obtain ⟨i3, hi3, hz3, hs3, hb3⟩ := info_parts info3
  have HI3 := Lib.hid (And.intro hi3 (And.intro hz3 (And.intro hs3 hb3)))
  clear hi3 hz3 hs3 hb3
  go_enter Try.func39, Try.ntmps39
  go_wp2_with (at_make; refine wpList_make_full _ rfl _ _ 23 rfl w.heap.size 3 i3 (.int .i64 0) 1 Try.underlying23 HI3.out.1 HI3.out.2.1 HI3.out.2.2.1 .i64 .i64 l.length l.length l.length rfl rfl rfl rfl (by rw [HI3.out.2.2.2]; omega) (by unfold maxLen; omega) (Nat.le_refl _) ?_)
  intro w1 ho hgr
  rw [made_ints] at ho
  have hb : Below w.heap.size w w1 := (Below.refl _ w).grown hgr (Nat.le_refl _) (by simp)
  have HO := Lib.hid (And.intro ho hb)
  clear ho hb hgr
  go_wp2_with fail
  go_loopg [11] l.length (fun kq v11 w' => ∃ (k : Nat), v11 = .int .i64 k ∧ k + kq = l.length ∧ Hid (w'.ownsRow w.heap.size 3 1 (.slice (some ⟨w.heap.size, 0, none⟩) l.length l.length) l.length (ints ((l.take k).map (fun x => -x) ++ List.replicate (l.length - k) 0))) ∧ Hid (Below w.heap.size w w'))
  case atStart => exact ⟨0, rfl, by omega, by show World.ownsRow _ _ _ _ _ _ _; simpa using HO.out.1, HO.out.2⟩
  case round =>
    clear HO
    obtain ⟨k, rfl, hk, HO, HB⟩ := hrel
    by_cases hlt : k < l.length
    · obtain ⟨b, o, rfl, kcell, -, -⟩ := (H.out.below HB.out).at hlt
      obtain ⟨xcell, xf, -⟩ := ownsRow_cell HO.out hlt
      have hxx := HX.out _ (getD_mem (d := 0) hlt)
      obtain ⟨hx1, hx2⟩ := hxx
      have hset : (ints ((l.take k).map (fun x => -x) ++ List.replicate (l.length - k) 0)).set k (.int .i64 (-(l.getD k 0))) = ints ((l.take (k + 1)).map (fun x => -x) ++ List.replicate (l.length - (k + 1)) 0) := by
        rw [ints_set, neg_step l k hlt]
      have ho2 := ownsRow_set HO.out k (.int .i64 (-(l.getD k 0)))
      rw [hset] at ho2
      rw [ints_get (by simp; omega)] at xcell
      have HO2 := Lib.hid ho2
      have HB2 := Lib.hid (HB.out.setCell (p := ⟨w.heap.size, k, none⟩) (Nat.le_refl _) (.int .i64 (-(l.getD k 0))))
      clear hset ho2 HO
      generalize l.getD k 0 = x at *
      generalize (List.map (fun x => -x) (List.take k l) ++ List.replicate (l.length - k) 0).getD k 0 = y at *
      go_wp2
      go_roundg (gk - 1)
      case measure => omega
      case rel => exact ⟨k + 1, by go_num, by omega, HO2, HB2⟩
    · obtain rfl : k = l.length := by omega
      go_wp2
      go_ret
      exact ⟨_, _, _, rfl, by simpa using HO.out, HB.out⟩

theorem valuesGo_len (p : PS) : ∀ r v out, (p.valuesGo r v out).length ≤ out.length + r := by
  intro r
  induction r with
  | zero => intro v out; simp [PS.valuesGo]
  | succ r ih =>
    intro v out
    simp only [PS.valuesGo]
    split
    · have := ih (v + 1) (out ++ [(v : Int) * p.val.getD v 0]); simp only [List.length_append, List.length_cons, List.length_nil] at this; omega
    · have := ih (v + 1) out; omega

set_option maxHeartbeats 4000000 in
theorem values_calls {R : Roles} {w : World} {g T : Nat} {ext : List Value} {u : PV} {p : PS} (h : Rep R w g T ext u p) (hwf : WF p) :
    Calls Try.prog 37 #[.pointer (some ⟨g, 0, none⟩)] w (NewPost w 3 (ints p.values)) := by
  obtain ⟨n, hn⟩ : ∃ n : Nat, p.n = n := ⟨p.n.toNat, by have := hwf.n0; omega⟩
  have hnm : n ≤ 100000000 := by have := hwf.nmax; omega
  have hvl : p.val.length = n + 1 := by have := hwf.val; omega
  have HV : Hid (p.values = p.valuesGo n 1 []) := by show PS.values p = _; unfold PS.values; rw [hn]; rfl
  have H := Lib.hid h
  have HW := Lib.hid hwf
  have HN := Lib.hid hn
  have HVL := Lib.hid hvl
  clear h hwf hn hvl
  go_enter Try.func37, Try.ntmps37
  go_wp2_with fail
  go_loopg [3, 4] n (fun kq v3 v4 w' => ∃ (k : Nat) (out : List Int) (oa : Option Addr) (oc : Nat), v4 = .int .i64 k ∧ 1 ≤ k ∧ k + kq = n + 1 ∧ v3 = .slice oa out.length oc ∧ out.length ≤ k ∧ Hid (p.valuesGo (n + 1 - k) k out = p.values) ∧ Hid (w'.ownsRow w.heap.size 3 1 (.slice oa out.length oc) (ints out).length (ints out)) ∧ Hid (Below w.heap.size w w'))
  case atStart => exact ⟨1, [], none, 0, rfl, by omega, by omega, rfl, by simp, by rw [HV.out]; exact rfl, World.ownsRow_nil _ _ _ _, Below.refl _ _⟩
  case round =>
    obtain ⟨k, out, oa, oc, rfl, hk1, hk, rfl, hol, HG, HO, HB⟩ := hrel
    have q1 := H.out.chg (S := fun _ => False) (Below.toChg H.out.dom HB.out _) (fun _ _ _ h => h) (H.out.dom.chg (Below.toChg H.out.dom HB.out (fun _ => False)))
    have h3 := q1.cells.2.2.2.1
    rw [HN.out] at h3
    have Q1 := Lib.hid q1
    clear q1
    by_cases hlt : k ≤ n
    · obtain ⟨vb, vc, h4, vcell, -, VE, -⟩ := Q1.out.atVal (i := k) (by rw [HVL.out]; omega)
      rw [HVL.out] at h4
      have hrng := HW.out.rng _ (getD_mem (d := 0) (i := k) (by rw [HVL.out]; omega))
      generalize hx : p.val.getD k 0 = x at *
      have hstep : p.valuesGo (n + 1 - k) k out = p.valuesGo (n + 1 - (k + 1)) (k + 1) (if x ≠ 0 then out ++ [(k : Int) * x] else out) := by
        rw [show n + 1 - k = (n + 1 - (k + 1)) + 1 from by omega]
        simp only [PS.valuesGo, hx]
      have HX := Lib.hid (And.intro hx hstep)
      clear hx hstep
      obtain ⟨hr1, hr2⟩ := hrng
      by_cases hz : x = 0
      · have bz : (x != 0) = false := by simp [hz]
        have HZ := Lib.hid hz
        clear hz
        go_wp2
        go_roundg (gk - 1)
        case measure => omega
        case rel => exact ⟨k + 1, out, oa, oc, by go_num, by omega, by omega, rfl, by omega, by
          show p.valuesGo _ _ _ = _
          rw [← HG.out, HX.out.2, if_neg (by rw [HZ.out]; simp)], HO, HB⟩
      · have bz : (x != 0) = true := by simp [hz]
        have hk0 : (0 : Int) ≤ (k : Int) := by omega
        have hm : -100000000 ≤ (k : Int) * x ∧ (k : Int) * x ≤ 100000000 := by
          have : x = -1 ∨ x = 1 := by omega
          rcases this with rfl | rfl <;> omega
        obtain ⟨hm1, hm2⟩ := hm
        have HZ := Lib.hid hz
        clear hz
        have ho2 := World.ownsRow.alloc HO.out (.cells #[Value.int .i64 ((k : Int) * x)] 3)
        have HO2 := Lib.hid ho2
        clear ho2
        go_wp2_with (at_builtin; refine wpList_app_new Try.underlying23 info3 rfl rfl _ _ rfl _ _ rfl HO2.out (HB.out.alloc HB.out.size _) _ 1 1 [.int .i64 ((k : Int) * x)] rfl rfl (cell_one_new _ _ _) (by simp [Value.oneCell']) (by omega) (by simp; omega) ?_)
        rintro a4 n4 c4 w4 ho4 hb4 - - rfl
        have ho5 : w4.ownsRow w.heap.size 3 1 (.slice a4 (out ++ [(k : Int) * x]).length c4) (ints (out ++ [(k : Int) * x])).length (ints (out ++ [(k : Int) * x])) := by
          rw [show [Value.int .i64 ((k : Int) * x)] = ints [(k : Int) * x] from rfl, ints_append] at ho4
          simpa using ho4
        have HO5 := Lib.hid ho5
        have HB5 := Lib.hid hb4
        clear ho4 ho5 hb4 HO2
        go_wp2
        go_roundg (gk - 1)
        case measure => omega
        case rel => exact ⟨k + 1, out ++ [(k : Int) * x], a4, c4, by go_num, by omega, by omega, by simp, by simp; omega, by
          show p.valuesGo _ _ _ = _
          rw [← HG.out, HX.out.2, if_pos HZ.out], HO5, HB5⟩
    · obtain rfl : k = n + 1 := by omega
      go_wp2
      go_ret
      have e : p.values = out := by
        rw [← HG.out, Nat.sub_self]; rfl
      exact ⟨oa, _, oc, rfl, by rw [e]; exact HO.out, HB.out⟩
end Go.Proofs.Ytjbdiobnlmhidaa
namespace Go.Proofs.Ytjbdiobnlmhidaa
open Go Go.RowKit

def repA (v : Value) (n : Nat) : Array Value := (List.replicate n v).toArray

theorem run_mk {t E : TypeId} {z : Value} {bytes : Nat} (ht : Try.prog.underlying t = some (.slice E)) (hinf : (Try.prog.info? E).map (fun i => (i.zero, i.size, i.bytes)) = some (some z, 1, bytes)) (hz : z.cells = #[z]) (hb : bytes ≤ 64)
    (L : Int) (n : Nat) (hL : L = n) (hn : n ≤ 1000000000000) (w : World) :
    (Instr.makeSlice t (.int .i64 L) (.int .i64 L)).run Try.prog w = .ok (.slice (some ⟨w.heap.size, 0, none⟩) n n) (w.alloc (.cells (repA z n) E)) := by
  obtain ⟨i, hi, hz0, hz1, hz2⟩ := info_parts hinf
  subst hL
  have hbb : bytes * n ≤ 64 * 1000000000000 := Nat.mul_le_mul hb hn
  have hbi : (i.bytes : Int) * (n : Int) ≤ 281474976710656 := by
    rw [hz2, ← Int.natCast_mul]; omega
  have hrun := run_make (P := Try.prog) w t E i z ht hi hz0 .i64 .i64 n n (by omega) (Int.le_refl _) hbi (by omega)
  rw [hz1, Nat.mul_one, hz, Int.toNat_natCast] at hrun
  rw [hrun]
  have e : madeCells #[z] n = repA z n := by
    apply Array.ext
    · simp [madeCells, repA]
    · intro i h1 h2; simp [madeCells, repA, Nat.mod_one]
  rw [e]

/-- a new propagator -/
def NewProp (w : World) (n : Nat) (e : Ending) (w' : World) : Prop :=
  ∃ g R u, e = .returned (.pointer (some ⟨g, 0, none⟩)) ∧ Rep R w' g 68 [] u (PS.init n) ∧ (∀ b r, R b = some r → w.heap.size ≤ b) ∧ Below w.heap.size w w'

def roles4 (g bw bv br : Nat) : Roles := fun b => if b = g then some (0, 0) else if b = bw then some (4, 0) else if b = bv then some (6, 0) else if b = br then some (7, 0) else none

theorem ownsRow_rep {w : World} {b E n : Nat} {z : Value} (h : w.heap[b]? = some (.cells (repA z n) E (0, 0))) (hn : n ≤ maxLen) : w.ownsRow 0 E 1 (.slice (some ⟨b, 0, none⟩) n n) n (List.replicate n z) :=
  ⟨by simp, .inr ⟨b, n, _, rfl, Nat.zero_le _, h, Nat.le_refl _, hn, by simp [repA], by simp [repA]⟩⟩

theorem new_rep {W : World} {n g bw bv br : Nat} (hn : n ≤ 100000000) (d1 : bw ≠ g) (d2 : bv ≠ g) (d3 : br ≠ g) (d4 : bv ≠ bw) (d5 : br ≠ bw) (d6 : br ≠ bv)
    (h1 : W.heap[bw]? = some (.cells (repA (.slice none 0 0) (2 * n + 1)) 23 (0, 0))) (h2 : W.heap[bv]? = some (.cells (repA (.int .i8 0) (n + 1)) 79 (0, 0))) (h3 : W.heap[br]? = some (.cells (repA (.int .i64 0) (n + 1)) 3 (0, 0)))
    (h4 : W.heap[g]? = some (.cells #[.slice none 0 0, .slice none 0 0, .slice (some ⟨bw, 0, none⟩) (2 * n + 1) (2 * n + 1), .int .i64 n, .slice (some ⟨bv, 0, none⟩) (n + 1) (n + 1), .slice (some ⟨br, 0, none⟩) (n + 1) (n + 1), .slice none 0 0, .int .i64 0, .int .i64 (-1), .int .i64 0] 68 (0, 0))) :
    Rep (roles4 g bw bv br) W g 68 [] ⟨.slice none 0 0, .slice none 0 0, .slice (some ⟨bw, 0, none⟩) (2 * n + 1) (2 * n + 1), .slice (some ⟨bv, 0, none⟩) (n + 1) (n + 1), .slice (some ⟨br, 0, none⟩) (n + 1) (n + 1), .slice none 0 0, [], List.replicate (2 * n + 1) (.slice none 0 0)⟩ (PS.init n) where
  hg := h4
  rg := by simp [roles4]
  dom b r hr := by
    unfold roles4 at hr
    split at hr
    · subst_vars; exact lt_of_heap h4
    · split at hr
      · subst_vars; exact lt_of_heap h1
      · split at hr
        · subst_vars; exact lt_of_heap h2
        · split at hr
          · subst_vars; exact lt_of_heap h3
          · cases hr
  cls := OwnS.nil _ _ _ _
  uni := OwnS.nil _ _ _ _
  wat := ⟨by simpa using ownsRow_rep h1 (by unfold maxLen; omega), fun b hb => by simp [Value.ownBlock] at hb; subst hb; simp [roles4, d1]⟩
  val := ⟨by have := ownsRow_rep h2 (by unfold maxLen; omega); simpa [PS.init, i8s] using this, fun b hb => by simp [Value.ownBlock] at hb; subst hb; simp [roles4, d2, d4]⟩
  rea := ⟨by have := ownsRow_rep h3 (by unfold maxLen; omega); simpa [PS.init, ints] using this, fun b hb => by simp [Value.ownBlock] at hb; subst hb; simp [roles4, d3, d5, d6]⟩
  tra := OwnS.nil _ _ _ _
  clen := rfl
  crow i hi := by cases hi
  wlen := by simp [PS.init]
  wrow i hi := by
    simp only [PS.init, List.length_replicate] at hi
    simp only [PS.init, List.getD_eq_getElem?_getD, List.getElem?_replicate, hi, if_true, Option.getD_some]
    exact OwnS.nil _ _ _ _

theorem alloc_heap (w : World) (o : Obj) (k : Nat) : (w.alloc o).heap[k]? = if k = w.heap.size then some o else w.heap[k]? := by
  show (w.heap.push o)[k]? = _
  rw [Array.getElem?_push]

theorem alloc_size (w : World) (o : Obj) : (w.alloc o).heap.size = w.heap.size + 1 := by simp

theorem roles4_ge {B g bw bv br : Nat} (h1 : B ≤ g) (h2 : B ≤ bw) (h3 : B ≤ bv) (h4 : B ≤ br) : ∀ b r, roles4 g bw bv br b = some r → B ≤ b := by
  intro b r hr
  unfold roles4 at hr
  split at hr
  · omega
  · split at hr
    · omega
    · split at hr
      · omega
      · split at hr
        · omega
        · cases hr

set_option maxHeartbeats 8000000 in
theorem newprop_calls (n : Nat) (hn : n ≤ 100000000) (w : World) :
    Calls Try.prog 52 #[.int .i64 n] w (NewProp w n) := by
  have m22 := run_mk (t := 22) (E := 23) Try.underlying22 info23 rfl (by omega) (2 * (n : Int) + 1) (2 * n + 1) (by omega) (by omega)
  have m66 := run_mk (t := 66) (E := 79) Try.underlying66 info79 rfl (by omega) ((n : Int) + 1) (n + 1) (by omega) (by omega)
  have m23 := run_mk (t := 23) (E := 3) Try.underlying23 info3 rfl (by omega) ((n : Int) + 1) (n + 1) (by omega) (by omega)
  have hs1 : IntKind.i64.wrap (2 * (n : Int)) = 2 * (n : Int) := IntWalk.i64_in _ (by omega)
  have hs2 : IntKind.i64.wrap (2 * (n : Int) + 1) = 2 * (n : Int) + 1 := IntWalk.i64_in _ (by omega)
  have hs3 : IntKind.i64.wrap ((n : Int) + 1) = (n : Int) + 1 := IntWalk.i64_in _ (by omega)
  go_enter Try.func52, Try.ntmps52
  go_wp2_with fail
  go_region
  all_goals go_wp2
  all_goals go_ret
  all_goals
    first
      | (refine ⟨_, _, _, rfl, new_rep (g := w.heap.size + 1 + 1 + 1) (bw := w.heap.size) (bv := w.heap.size + 1) (br := w.heap.size + 1 + 1) hn ?_ ?_ ?_ ?_ ?_ ?_ ?_ ?_ ?_ ?_, roles4_ge ?_ ?_ ?_ ?_, ((((Below.refl _ _).drew.alloc (Nat.le_refl _) _).alloc (by simp) _).alloc (by simp; omega) _).alloc (by simp; omega) _⟩
         all_goals first
           | omega
           | (show (World.alloc (World.alloc (World.alloc (World.alloc w _) _) _) _).heap[_]? = _
              simp only [alloc_heap, alloc_size]
              repeat (first | rw [if_pos rfl] | rw [if_pos trivial] | rw [if_neg (by omega)])
              done))
      | (refine ⟨_, _, _, rfl, new_rep (g := w.heap.size + 1 + 1 + 1) (bw := w.heap.size) (bv := w.heap.size + 1 + 1) (br := w.heap.size + 1) hn ?_ ?_ ?_ ?_ ?_ ?_ ?_ ?_ ?_ ?_, roles4_ge ?_ ?_ ?_ ?_, ((((Below.refl _ _).drew.alloc (Nat.le_refl _) _).alloc (by simp) _).alloc (by simp; omega) _).alloc (by simp; omega) _⟩
         all_goals first
           | omega
           | (show (World.alloc (World.alloc (World.alloc (World.alloc w _) _) _) _).heap[_]? = _
              simp only [alloc_heap, alloc_size]
              repeat (first | rw [if_pos rfl] | rw [if_pos trivial] | rw [if_neg (by omega)])
              done))
      | (refine ⟨_, _, _, rfl, new_rep (g := w.heap.size + 1 + 1 + 1) (bw := w.heap.size + 1) (bv := w.heap.size) (br := w.heap.size + 1 + 1) hn ?_ ?_ ?_ ?_ ?_ ?_ ?_ ?_ ?_ ?_, roles4_ge ?_ ?_ ?_ ?_, ((((Below.refl _ _).drew.alloc (Nat.le_refl _) _).alloc (by simp) _).alloc (by simp; omega) _).alloc (by simp; omega) _⟩
         all_goals first
           | omega
           | (show (World.alloc (World.alloc (World.alloc (World.alloc w _) _) _) _).heap[_]? = _
              simp only [alloc_heap, alloc_size]
              repeat (first | rw [if_pos rfl] | rw [if_pos trivial] | rw [if_neg (by omega)])
              done))
      | (refine ⟨_, _, _, rfl, new_rep (g := w.heap.size + 1 + 1 + 1) (bw := w.heap.size + 1) (bv := w.heap.size + 1 + 1) (br := w.heap.size) hn ?_ ?_ ?_ ?_ ?_ ?_ ?_ ?_ ?_ ?_, roles4_ge ?_ ?_ ?_ ?_, ((((Below.refl _ _).drew.alloc (Nat.le_refl _) _).alloc (by simp) _).alloc (by simp; omega) _).alloc (by simp; omega) _⟩
         all_goals first
           | omega
           | (show (World.alloc (World.alloc (World.alloc (World.alloc w _) _) _) _).heap[_]? = _
              simp only [alloc_heap, alloc_size]
              repeat (first | rw [if_pos rfl] | rw [if_pos trivial] | rw [if_neg (by omega)])
              done))
      | (refine ⟨_, _, _, rfl, new_rep (g := w.heap.size + 1 + 1 + 1) (bw := w.heap.size + 1 + 1) (bv := w.heap.size) (br := w.heap.size + 1) hn ?_ ?_ ?_ ?_ ?_ ?_ ?_ ?_ ?_ ?_, roles4_ge ?_ ?_ ?_ ?_, ((((Below.refl _ _).drew.alloc (Nat.le_refl _) _).alloc (by simp) _).alloc (by simp; omega) _).alloc (by simp; omega) _⟩
         all_goals first
           | omega
           | (show (World.alloc (World.alloc (World.alloc (World.alloc w _) _) _) _).heap[_]? = _
              simp only [alloc_heap, alloc_size]
              repeat (first | rw [if_pos rfl] | rw [if_pos trivial] | rw [if_neg (by omega)])
              done))
      | (refine ⟨_, _, _, rfl, new_rep (g := w.heap.size + 1 + 1 + 1) (bw := w.heap.size + 1 + 1) (bv := w.heap.size + 1) (br := w.heap.size) hn ?_ ?_ ?_ ?_ ?_ ?_ ?_ ?_ ?_ ?_, roles4_ge ?_ ?_ ?_ ?_, ((((Below.refl _ _).drew.alloc (Nat.le_refl _) _).alloc (by simp) _).alloc (by simp; omega) _).alloc (by simp; omega) _⟩
         all_goals first
           | omega
           | (show (World.alloc (World.alloc (World.alloc (World.alloc w _) _) _) _).heap[_]? = _
              simp only [alloc_heap, alloc_size]
              repeat (first | rw [if_pos rfl] | rw [if_pos trivial] | rw [if_neg (by omega)])
              done))
end Go.Proofs.Ytjbdiobnlmhidaa
