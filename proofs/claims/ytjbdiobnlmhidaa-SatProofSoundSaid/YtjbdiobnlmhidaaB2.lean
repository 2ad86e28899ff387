/- Proved here: learning a clause and finding a core. Conditions: those that each theorem states. -/
import Derived.Test.YtjbdiobnlmhidaaB1
import Derived.Test.YtjbdiobnlmhidaaA5
import Derived.Maps.OwnSet
import Derived.Maps.OwnOps
set_option linter.unusedVariables false
set_option linter.unusedSimpArgs false
namespace Go.Proofs.Ytjbdiobnlmhidaa
open Go Go.RowKit

/-- what a walk asks of a solver's state -/
structure SOk (z : SS) : Prop where
  wf : WF z.p
  lev : (z.lev.length : Int) = z.p.n + 1
  levr : ∀ y, y ∈ z.lev → 0 ≤ y ∧ y ≤ 1000000000
  lim : z.lim.length ≤ 1000000000
  limr : ∀ x, x < z.lim.length → z.lim.getD x 0 ≤ z.p.tra.length
  tra : z.p.tra.length ≤ 100000000
  cn : z.p.cls.length < 100000000
  un : z.p.uni.length ≤ 100000000
  rows : ∀ r, r ∈ z.p.wat → r.length ≤ 100000000
  lrn : z.lrn.length ≤ 1000000000

theorem SOk.att {z : SS} (h : SOk z) {c : List Int} (hc : ∀ l, l ∈ c → Lit z.p.n l) (hl : c.length ≤ 100000000) : AttOk z c :=
  ⟨h.wf, h.lev, h.levr, h.lim, h.limr, h.tra, hc, hl, h.cn, h.un, h.rows, h.lrn⟩

theorem learn_start {R : Roles} {w : World} {g : Nat} {u : PV} {s : SV} {z : SS} (h : SRep R w g u s z) {n : Nat} (hn : n ≤ 1000000000) :
    ∃ R', SRep R' ((w.alloc (.cells (repA (.bool false) n) 4)).alloc (.cells #[.slice (some ⟨w.heap.size, 0, none⟩) n n, .slice none 0 0, .int .i64 0, .int .i64 0] 89)) g u s z ∧
      XRep R' ((w.alloc (.cells (repA (.bool false) n) 4)).alloc (.cells #[.slice (some ⟨w.heap.size, 0, none⟩) n n, .slice none 0 0, .int .i64 0, .int .i64 0] 89)) (w.heap.size + 1) (.slice (some ⟨w.heap.size, 0, none⟩) n n) (.slice none 0 0) ⟨List.replicate n false, [], 0⟩ 0 ∧
      Chg ARole R w R' ((w.alloc (.cells (repA (.bool false) n) 4)).alloc (.cells #[.slice (some ⟨w.heap.size, 0, none⟩) n n, .slice none 0 0, .int .i64 0, .int .i64 0] 89)) := by
  have hd := h.1.dom
  have k0 : Chg (fun r => r.1 = 21 ∨ r.1 = 22) R w R ((w.alloc (.cells (repA (.bool false) n) 4)).alloc (.cells #[.slice (some ⟨w.heap.size, 0, none⟩) n n, .slice none 0 0, .int .i64 0, .int .i64 0] 89)) :=
    (Chg.alloc _ w hd _).trans (Chg.alloc _ _ (hd.alloc _) _)
  generalize hs : w.heap.size = s0 at k0 ⊢
  generalize hW : (w.alloc (.cells (repA (.bool false) n) 4)).alloc (.cells #[.slice (some ⟨s0, 0, none⟩) n n, .slice none 0 0, .int .i64 0, .int .i64 0] 89) = W at *
  have e0 : W.heap[s0]? = some (.cells (repA (.bool false) n) 4 (0, 0)) := by
    rw [← hW]
    simp only [alloc_heap, alloc_size, hs]
    repeat (first | rw [if_pos rfl] | rw [if_pos trivial] | rw [if_neg (by omega)])
  have e1 : W.heap[s0 + 1]? = some (.cells #[.slice (some ⟨s0, 0, none⟩) n n, .slice none 0 0, .int .i64 0, .int .i64 0] 89 (0, 0)) := by
    rw [← hW]
    simp only [alloc_heap, alloc_size, hs]
    repeat (first | rw [if_pos rfl] | rw [if_pos trivial] | rw [if_neg (by omega)])
  obtain ⟨k1, d1⟩ := k0.tags (R' := fun b => if b = s0 then some (21, 0) else if b = s0 + 1 then some (22, 0) else R b) hd (fun b hb => by
    rw [hs] at hb
    simp only [show ¬ b = s0 from by omega, show ¬ b = s0 + 1 from by omega, if_false]) (fun b r hb hr => by
    have hz : W.heap.size = s0 + 1 + 1 := by rw [← hW]; simp only [alloc_size, hs]
    rw [hs] at hb
    try dsimp only at hr
    split at hr
    · cases hr; exact ⟨by omega, by simp⟩
    · split at hr
      · cases hr; exact ⟨by omega, by simp⟩
      · have := hd b r hr; omega)
  refine ⟨_, h.chg k1 (fun i j hi => by simp; omega) d1, ⟨e1, by show (if _ = s0 then _ else _) = _; rw [if_neg (by omega), if_pos rfl], ⟨?_, fun b hb => ?_⟩, OwnS.nil _ _ _ _⟩, ?_⟩
  · have := ownsRow_repB (z := .bool false) e0 (by unfold maxLen; omega)
    simpa [boos] using this
  · simp [Value.ownBlock] at hb; subst hb; show (if _ = s0 then _ else _) = _; rw [if_pos rfl]
  · exact k1.mono (fun r h => by rcases h with h | h <;> (show r.1 < 30; omega))

def LPost (R : Roles) (w : World) (g : Nat) (z : SS) (F : Nat) (e : Ending) (w' : World) : Prop :=
  e = .returned (.tuple #[]) ∧ ∃ c, Learnt z F c ∧ ∃ R' u' s', SRep R' w' g u' s' (z.attach c) ∧ Chg ARole R w R' w'

theorem SRep.drewN {R : Roles} {w : World} {g : Nat} {u : PV} {s : SV} {z : SS} (h : SRep R w g u s z) (n : Nat) : SRep R (w.drewN n) g u s z := h.below ⟨rfl, rfl, rfl, Nat.le_refl _, fun _ _ => rfl⟩
theorem Chg.drewN {S : Role → Prop} {R R' : Roles} {w w' : World} (h : Chg S R w R' w') (n : Nat) : Chg S R w R' (w'.drewN n) := h.congr rfl rfl rfl rfl
theorem XRep.drewN {R : Roles} {w : World} {bx : Nat} {vs vr : Value} {x : XS} {top : Int} (h : XRep R w bx vs vr x top) (hd : Dom R w) (n : Nat) : XRep R (w.drewN n) bx vs vr x top :=
  h.chg ((Chg.refl (fun _ => False) R w hd).drewN n) (fun _ _ _ _ h => h)

set_option maxRecDepth 100000 in
set_option maxHeartbeats 16000000 in
theorem learn_calls {R : Roles} {w : World} {g : Nat} {u : PV} {s : SV} {z : SS} {S : List (List Int)} (h : SRep R w g u s z) (hk : SOk z) (hc : CI S z) {F : Nat} (hF : z.p.fal = F) (hFl : F < z.p.cls.length) (hFf : ∀ m, m ∈ z.p.cls.getD F [] → -m ∈ z.p.tra) :
    Calls Try.prog 60 #[.pointer (some ⟨g, 0, none⟩)] w (LPost R w g z F) := by
  obtain ⟨n, hn⟩ : ∃ n : Nat, z.p.n = n := ⟨z.p.n.toNat, by have := hk.wf.n0; omega⟩
  have hnm := hk.wf.nmax
  have h3 := h.1.cells.2.2.2.1
  rw [hn] at h3 hnm
  have m36 := run_mk (t := 36) (E := 4) Try.underlying36 info4 rfl (by omega) ((n : Int) + 1) (n + 1) (by omega) (by omega)
  have hs1 : IntKind.i64.wrap ((n : Int) + 1) = (n : Int) + 1 := IntWalk.i64_in _ (by omega)
  obtain ⟨R0, q0, x0, k0⟩ := learn_start h (n := n + 1) (by omega)
  have HS := Lib.hid (And.intro q0 (And.intro x0 k0))
  have HK := Lib.hid hk
  have HC := Lib.hid hc
  have HF := Lib.hid (And.intro hF (And.intro hFl hFf))
  have HN := Lib.hid hn
  have hlvl : (z.lev.length : Int) = n + 1 := by rw [← hn]; exact hk.lev
  have HLVL := Lib.hid hlvl
  clear h hk hc hF hFl hFf hn q0 x0 k0 hlvl
  go_enter Try.func60, Try.ntmps60
  go_upto_region 1 with (fail)
  obtain ⟨bx, hbx⟩ : ∃ bx, w.heap.size + 1 = bx := ⟨_, rfl⟩
  obtain ⟨vs, hvs⟩ : ∃ vs, Value.slice (some ⟨w.heap.size, 0, none⟩) (n + 1) (n + 1) = vs := ⟨_, rfl⟩
  rw [hbx]
  refine cutW (fun w1 => ∃ R1, SRep R1 w1 g u s z ∧ XRep R1 w1 bx vs (.slice none 0 0) ⟨List.replicate (n + 1) false, [], 0⟩ 0 ∧ Chg ARole R w R1 w1) ⟨R0, HS.out.1, by rw [← hbx, ← hvs]; exact HS.out.2.1, HS.out.2.2⟩ ?_
  clear HS h3 m36 hs1 hvs hbx
  rintro w1 ⟨R1, q1, x1, k1⟩
  obtain ⟨cb, cc, h0, ccell, -, CE, -⟩ := q1.1.atCls HF.out.2.1
  have h8 := q1.1.cells.2.2.2.2.2.2.2.2.1
  rw [HF.out.1] at h8
  obtain ⟨ra, rc, er, hr1, hr2, -⟩ := q1.1.atCrow HF.out.2.1
  have HFlt := Lib.hid HF.out.2.1
  have hFlt : F < z.p.cls.length := HFlt.out
  obtain ⟨cl, hcl⟩ : ∃ cl, z.p.cls.getD F [] = cl := ⟨_, rfl⟩
  rw [hcl] at er hr1
  rw [er] at ccell
  unfold maxLen at hr2
  have hcll : cl.length ≤ 100000000 := by rw [← hcl]; exact HK.out.wf.clen _ (getD_mem hFlt)
  have HER := Lib.hid er
  have HCL := Lib.hid hcl
  have Q1 := Lib.hid (And.intro q1 (And.intro x1 k1))
  clear q1 x1 k1 er hcl CE
  go_wp2_with fail
  go_quiet (fail)
  have Q2 : Hid (SRep R1 (w1.drewN nq) g u s z ∧ XRep R1 (w1.drewN nq) bx vs (.slice none 0 0) ⟨List.replicate (n + 1) false, [], 0⟩ 0 ∧ Chg ARole R w R1 (w1.drewN nq)) := ⟨Q1.out.1.drewN nq, Q1.out.2.1.drewN Q1.out.1.1.dom nq, Q1.out.2.2.drewN nq⟩
  clear Q1 h0 ccell h8
  go_wp2_with fail
  go_loopg [31] cl.length (fun kq v31 w' => ∃ (j : Nat), v31 = .int .i64 j ∧ j + kq = cl.length ∧ Hid (SRep R1 w' g u s z ∧ XRep R1 w' bx vs (.slice none 0 0) ⟨List.replicate (n + 1) false, [], 0⟩ (maxL z.lev (cl.take j) 0) ∧ Chg ARole R w R1 w'))
  case atStart => exact ⟨0, rfl, by omega, Q2.out⟩
  case round =>
    clear Q2
    obtain ⟨j, rfl, hj, Q2⟩ := hrel
    by_cases hlt : j < cl.length
    · obtain ⟨ra', rc', er, -, -, hrow⟩ := Q2.out.1.1.atCrow HFlt.out
      rw [HCL.out] at er hrow
      have e3 := HER.out.symm.trans er
      simp only [Value.slice.injEq, true_and] at e3
      obtain ⟨rfl, rfl⟩ := e3
      obtain ⟨rb, rfl, rcell, -, -⟩ := hrow j hlt
      have hlit := HK.out.wf.lit _ (getD_mem (d := []) HFlt.out) (cl.getD j 0) (by rw [HCL.out]; exact getD_mem hlt)
      have EST := Lib.hid (maxL_step (lev := z.lev) (x := 0) hlt)
      generalize cl.getD j 0 = l at *
      have hl2 := hlit.2
      rw [HN.out] at hl2
      have hla : (l.natAbs : Int) ≤ 100000000 := by omega
      obtain ⟨vb, vc, h12, lcell, -, -⟩ := Q2.out.1.atLev (i := l.natAbs) (by have := HLVL.out; omega)
      have hll1 : l.natAbs < z.lev.length := by have := HLVL.out; omega
      have c3 := Q2.out.2.1.cells.2.2.2
      have f3 := Q2.out.2.1.free 3
      have HTP := Lib.hid (fun y => Q2.out.2.1.setTop Q2.out.1.1.dom y)
      generalize maxL z.lev (cl.take j) 0 = tp at *
      generalize z.lev.getD l.natAbs 0 = lv at *
      clear hrow er hlit hl2
      have HFIN : Hid (∀ y, y = max tp lv → SRep R1 (wr.setCell ⟨bx, 3, none⟩ (.int .i64 y)) g u s z ∧ XRep R1 (wr.setCell ⟨bx, 3, none⟩ (.int .i64 y)) bx vs (.slice none 0 0) ⟨List.replicate (n + 1) false, [], 0⟩ (maxL z.lev (cl.take (j + 1)) 0) ∧ Chg ARole R w R1 (wr.setCell ⟨bx, 3, none⟩ (.int .i64 y))) := fun y hy => by
        rw [EST.out, ← hy]
        exact ⟨Q2.out.1.chg (HTP.out y).2 (fun i j hi e => by cases e; omega) (Q2.out.1.1.dom.setCell _ _), (HTP.out y).1, Q2.out.2.2.trans ((HTP.out y).2.mono (by rintro r rfl; simp))⟩
      clear HTP EST
      by_cases hmx : tp < lv
      · have hmx' : ¬ (lv ≤ tp) := by omega
        go_upto_region 5 with (fail)
        go_still_tail 16, (by kernel_rfl)
        still_call (mag_still _ _ (by omega) (by omega))
        repeat still_step
        refine wpStill_nil ?_
        have HFI := Lib.hid (HFIN.out lv (by omega))
        go_upto_region 6 with (fail)
        refine cutW (fun w3 => SRep R1 w3 g u s z ∧ XRep R1 w3 bx vs (.slice none 0 0) ⟨List.replicate (n + 1) false, [], 0⟩ (maxL z.lev (cl.take (j + 1)) 0) ∧ Chg ARole R w R1 w3) ⟨HFI.out.1.drew, HFI.out.2.1.chg (Chg.refl (fun _ => False) _ _ HFI.out.1.1.dom).drew (fun _ _ _ _ h => h), HFI.out.2.2.drew⟩ ?_
        clear HFI HFIN c3 f3 lcell h12 rcell Q2
        rintro w3 q3
        go_wp2
        go_roundg (gk - 1)
        case measure => omega
        case rel => exact ⟨j + 1, by go_num, by omega, q3⟩
      · have hmx' : lv ≤ tp := by omega
        go_upto_region 5 with (fail)
        go_still_tail 16, (by kernel_rfl)
        still_call (mag_still _ _ (by omega) (by omega))
        repeat still_step
        refine wpStill_nil ?_
        have HFI := Lib.hid (HFIN.out tp (by omega))
        go_upto_region 6 with (fail)
        refine cutW (fun w3 => SRep R1 w3 g u s z ∧ XRep R1 w3 bx vs (.slice none 0 0) ⟨List.replicate (n + 1) false, [], 0⟩ (maxL z.lev (cl.take (j + 1)) 0) ∧ Chg ARole R w R1 w3) ⟨HFI.out.1.drew, HFI.out.2.1.chg (Chg.refl (fun _ => False) _ _ HFI.out.1.1.dom).drew (fun _ _ _ _ h => h), HFI.out.2.2.drew⟩ ?_
        clear HFI HFIN c3 f3 lcell h12 rcell Q2
        rintro w3 q3
        go_wp2
        go_roundg (gk - 1)
        case measure => omega
        case rel => exact ⟨j + 1, by go_num, by omega, q3⟩
    · obtain rfl : j = cl.length := by omega
      rw [List.take_length] at Q2
      obtain ⟨m1, m2, m3⟩ := maxL_spec z.lev cl 0
      have HMX := Lib.hid (And.intro m1 (And.intro m2 m3))
      clear m1 m2 m3
      generalize maxL z.lev cl 0 = top at *
      have c3 := Q2.out.2.1.cells.2.2.2
      by_cases h0 : top = 0
      · have HL0 : Hid (Learnt z F []) := .inl ⟨rfl, fun m hm => by
          rw [HCL.out] at hm
          have h1 := HMX.out.2.1 m hm
          have hlit := HK.out.wf.lit _ (getD_mem (d := []) HFlt.out) m (by rw [HCL.out]; exact hm)
          have h2 := (HK.out.levr _ (getD_mem (d := 0) (l := z.lev) (i := m.natAbs) (by have := hlit.2; have := HLVL.out; have := HN.out; omega))).1
          omega⟩
        have b0 : (top == 0) = true := by simp [h0]
        have HAT := Lib.hid (attach_calls Q2.out.1 (OwnS.nil R1 wr (25, 0) 3) (HK.out.att (c := []) (fun l hl => by cases hl) (by simp)))
        have HCH := Lib.hid Q2.out.2.2
        subst h0
        clear b0
        go_wp2_with (go_at_call 72; refine HAT.out.mono ?_; rintro e w5 ⟨rfl, R5, u5, s5, q5, k5⟩; have Q5 := Lib.hid (And.intro q5 (HCH.out.trans k5)); clear q5 k5 HAT Q2)
        go_end0
        exact ⟨rfl, [], HL0.out, R5, u5, s5, Q5.out.1, Q5.out.2⟩
      · have b0 : (top == 0) = false := by simp [h0]
        have HT0 := Lib.hid h0
        have h6 := Q2.out.1.1.cells.2.2.2.2.2.2.1
        obtain ⟨ta, tc, htf, htc1, htc2, -⟩ := Q2.out.1.1.tra.form
        rw [ints_length] at htf htc1
        rw [htf] at h6
        have HTF := Lib.hid htf
        have htl := HK.out.tra
        clear htf h0
        have hs6 : IntKind.i64.wrap ((z.p.tra.length : Int) - 1) = (z.p.tra.length : Int) - 1 := IntWalk.i64_in _ (by omega)
        have HJ0 : Hid (JB z F top ⟨List.replicate (n + 1) false, [], 0⟩ z.p.tra.length F 0) := ⟨HFlt.out, fun m hm _ => by
          obtain ⟨t, ht, et⟩ := mem_getD (0 : Int) (HF.out.2.2 m hm)
          exact ⟨⟨t, ht, et⟩, HMX.out.2.1 m (by rw [← HCL.out]; exact hm)⟩, JI.start HN.out, .inl ⟨rfl, rfl, rfl⟩⟩
        have HMT : Hid (∃ m, m ∈ z.p.cls.getD F [] ∧ z.lev.getD m.natAbs 0 = top) := by
          rcases HMX.out.2.2 with h | ⟨m, hm, h⟩
          · exact absurd h HT0.out
          · exact ⟨m, by rw [HCL.out]; exact hm, h⟩
        obtain ⟨T, hT⟩ : ∃ T, z.p.tra.length = T := ⟨_, rfl⟩
        have HTT := Lib.hid hT
        rw [hT] at h6 htc1 htl hs6 HJ0 HTF
        clear hT
        obtain ⟨cv0, hcv0⟩ : ∃ cv, u.crow.getD F undef = cv := ⟨_, rfl⟩
        have HCV0 := Lib.hid hcv0
        have hcve : Value.slice ra cl.length rc = cv0 := by rw [← hcv0]; exact HER.out.symm
        clear hcv0
        unfold maxLen at htc2
        go_wp2_with fail
        go_quiet (fail)
        have Q3 : Hid (SRep R1 (wr.drewN nq) g u s z ∧ XRep R1 (wr.drewN nq) bx vs (.slice none 0 0) ⟨List.replicate (n + 1) false, [], 0⟩ top ∧ Chg ARole R w R1 (wr.drewN nq)) := ⟨Q2.out.1.drewN nq, Q2.out.2.1.drewN Q2.out.1.1.dom nq, Q2.out.2.2.drewN nq⟩
        clear Q2 h6 c3 HMX
        go_wp2_with fail
        rw [hcve]
        clear hcve
        go_loopg [3, 6, 7] T (fun kq v3 v6 v7 w' => ∃ (x : XS) (ci : Nat) (pv : Int) (cv : Value) (R2 : Roles) (s2 : SV) (vr : Value), v3 = cv ∧ v6 = .int .i64 pv ∧ v7 = .int .i64 ((kq : Int) - 1) ∧ kq ≤ T ∧ Hid (u.crow.getD ci undef = cv) ∧ Hid (JB z F top x kq ci pv) ∧ Hid (SRep R2 w' g u s2 z ∧ XRep R2 w' bx vs vr x top ∧ Chg ARole R w R2 w'))
        case atStart => exact ⟨_, F, 0, cv0, R1, s, _, rfl, rfl, rfl, Nat.le_refl _, HCV0, HJ0, Q3.out⟩
        case round =>
          clear Q3 HCV0 HJ0
          obtain ⟨x, ci, pv, cv, R2, s2, vr, rfl, rfl, rfl, hkT, HCV, HJ, Q3⟩ := hrel
          have hb := HJ.out.bounds HC.out
          have HJA := Lib.hid (HJ.out.visit HC.out HMT.out HT0.out)
          have hvc := visitClause_calls Q3.out.1 Q3.out.2.1 HK.out.wf HK.out.lev HJ.out.2.2.1.sl HJ.out.1 pv hb.1 hb.2
          rw [HCV.out] at hvc
          have HVC := Lib.hid hvc
          have HCH := Lib.hid Q3.out.2.2
          clear hb hvc HJ Q3
          generalize visitC z.lev top pv (z.p.cls.getD ci []) x = x1 at *
          obtain ⟨ga, rfl⟩ : ∃ ga : Nat, ga = gk := ⟨_, rfl⟩
          go_wp2_with (go_at_call 73; refine HVC.out.mono ?_; rintro e w3 ⟨rfl, R3, s3, vr3, q3, x3, k3⟩; have Q3 := Lib.hid (And.intro q3 (And.intro x3 (HCH.out.trans k3))); clear q3 x3 k3 HVC HCH)
          go_loopg [7] ga (fun kq v7 w' => ∃ y : Int, v7 = .int .i64 y ∧ y + 1 = kq ∧ kq ≤ ga ∧ Hid (JA z F top x1 kq) ∧ Hid (SRep R3 w' g u s3 z ∧ XRep R3 w' bx vs vr3 x1 top ∧ Chg ARole R w R3 w'))
          case atStart => exact ⟨_, rfl, by omega, Nat.le_refl _, HJA, Q3.out⟩
          case round =>
            clear Q3 HJA
            obtain ⟨y, rfl, hy, hka, HJA, Q3⟩ := hrel
            rcases gk with _ | b
            · exact absurd HJA.out.pos (by omega)
            · obtain rfl : y = (b : Int) := by omega
              have hbT : b < T := by omega
              have hbl : b < z.p.tra.length := by rw [HTT.out]; exact hbT
              obtain ⟨tb, tc2, h6, tcell, -, TE, -⟩ := Q3.out.1.1.atTra hbl
              have e3 := HTF.out.symm.trans TE.out
              rw [HTT.out] at e3 h6
              simp only [Value.slice.injEq, true_and] at e3
              obtain ⟨rfl, rfl⟩ := e3
              have hlit := HK.out.wf.tra _ (getD_mem (d := 0) hbl)
              have hlo := HK.out.wf.litOk hlit
              have htb := topB_iff (z := z) (top := top) (seen := x1.seen) (t := b)
              have HFD := Lib.hid (fun hn => JA.found HC.out HJA.out hn)
              have HSK := Lib.hid (fun hn => JA.skip HJA.out hn)
              obtain ⟨l, hl⟩ : ∃ l, z.p.tra.getD b 0 = l := ⟨_, rfl⟩
              rw [hl] at tcell hlit hlo htb
              have HL := Lib.hid hl
              have hl2 := hlit.2
              rw [HN.out] at hl2
              have hla : (l.natAbs : Int) ≤ 100000000 := by omega
              obtain ⟨vb, vc, h12, lcell, -, -⟩ := Q3.out.1.atLev (i := l.natAbs) (by have := HLVL.out; omega)
              have hll1 : l.natAbs < z.lev.length := by have := HLVL.out; omega
              have hsl : x1.seen.length = n + 1 := by have := HJA.out.1.sl; rw [HN.out] at this; omega
              obtain ⟨sb, sc, hvs, -, scell, -, -⟩ := Q3.out.2.1.atSeen Q3.out.1.1.dom (i := l.natAbs) (by omega)
              have x0 := Q3.out.2.1.cells.1
              rw [hvs, hsl] at x0
              have c3 := Q3.out.2.1.cells.2.2.2
              have HTB := Lib.hid htb
              have hln1 : l.natAbs < n + 1 := by omega
              have HLO := Lib.hid hlo
              clear hl hlit htb hl2 TE hvs hbl hlo
              by_cases hs : x1.seen.getD l.natAbs false = true
              · rw [hs] at scell
                have HSN := Lib.hid hs
                clear hs
                by_cases hlv : z.lev.getD l.natAbs 0 = top
                · have bl : (z.lev.getD l.natAbs 0 != top) = false := by rw [hlv]; simp
                  have HB := Lib.hid (HTB.out.2 ⟨HSN.out, hlv⟩)
                  have HFO := Lib.hid (HFD.out HB.out)
                  have HOB := Lib.hid HJA.out.1.opn0
                  have HX9 := Lib.hid (And.intro HSN.out hlv)
                  clear HTB HFD HSK
                  generalize z.lev.getD l.natAbs 0 = lv at *
                  go_wp2_with fail
                  go_quiet (first | (go_at_call 71; exact mag_quiet l (by omega) (by omega)))
                  obtain ⟨w4, ew4⟩ : ∃ w4 : World, wr.drewN nq = w4 := ⟨_, rfl⟩
                  rw [ew4]
                  have Q4 : Hid (SRep R3 w4 g u s3 z ∧ XRep R3 w4 bx vs vr3 x1 top ∧ Chg ARole R w R3 w4) := by rw [← ew4]; exact ⟨Q3.out.1.drewN nq, Q3.out.2.1.drewN Q3.out.1.1.dom nq, Q3.out.2.2.drewN nq⟩
                  clear Q3 ew4 h6 tcell h12 lcell scell x0 c3 bl
                  obtain ⟨tb2, tc3, h6, tcell, -, -, -⟩ := Q4.out.1.1.atTra HFO.out.1
                  rw [HL.out] at tcell
                  have c2 := Q4.out.2.1.cells.2.2.1
                  have f2 := Q4.out.2.1.free 2
                  have hbl : b < z.p.tra.length := HFO.out.1
                  have hsb : IntKind.i64.wrap ((b : Int) - 1) = (b : Int) - 1 := IntWalk.i64_in _ (by omega)
                  have hso : IntKind.i64.wrap (x1.opn - 1) = x1.opn - 1 := IntWalk.i64_in _ (by have := HOB.out; omega)
                  have X5 := Lib.hid (Q4.out.2.1.setOpn Q4.out.1.1.dom (x1.opn - 1))
                  have Q5 : Hid (SRep R3 (w4.setCell ⟨bx, 2, none⟩ (.int .i64 (x1.opn - 1))) g u s3 z ∧ XRep R3 (w4.setCell ⟨bx, 2, none⟩ (.int .i64 (x1.opn - 1))) bx vs vr3 { x1 with opn := x1.opn - 1 } top ∧ Chg ARole R w R3 (w4.setCell ⟨bx, 2, none⟩ (.int .i64 (x1.opn - 1)))) :=
                    ⟨Q4.out.1.chg X5.out.2 (fun i j hi e => by cases e; omega) (Q4.out.1.1.dom.setCell _ _), X5.out.1, Q4.out.2.2.trans (X5.out.2.mono (by rintro r rfl; simp))⟩
                  have HBN := Lib.hid hbT
                  obtain ⟨ho1, ho2⟩ := HOB.out
                  by_cases h1 : x1.opn - 1 = 0
                  · have HJE := Lib.hid (HFO.out.2.1 h1)
                    have b1 : (x1.opn - 1 == 0) = true := by simp [h1]
                    have HH1 := Lib.hid h1
                    clear h1 HFO
                    clear X5 Q4 hso
                    go_upto_region 18 with (fail)
                    refine cutW (fun w5 => SRep R3 w5 g u s3 z ∧ XRep R3 w5 bx vs vr3 { x1 with opn := x1.opn - 1 } top ∧ Chg ARole R w R3 w5) Q5.out ?_
                    clear Q5 h6 tcell c2 f2
                    rintro w5 ⟨q5, x5, k5⟩
                    have c14 := q5.cells.2.2.2.2.1
                    have f14 := q5.1.free 14
                    have hstp := q5.2.stp
                    have HST := Lib.hid (fun (x : Int) (h0 : 0 ≤ x) (h1 : x ≤ 18446744073709551615) => q5.setStep h0 h1)
                    have Q5 := Lib.hid (And.intro q5 (And.intro x5 k5))
                    clear q5 x5 k5
                    obtain ⟨st, hst⟩ : ∃ st, s3.step = st := ⟨_, rfl⟩
                    rw [hst] at c14 hstp
                    clear hst
                    obtain ⟨hst0, hst1⟩ := hstp
                    go_wp2_with fail
                    go_still_tail 13, (by kernel_rfl)
                    go_upto_region 19 with (fail)
                    refine cutW (fun w6 => ∃ s6, SRep R3 w6 g u s6 z ∧ XRep R3 w6 bx vs vr3 { x1 with opn := x1.opn - 1 } top ∧ Chg ARole R w R3 w6) ⟨_, (HST.out _ (u64_range _).1 (u64_range _).2).1.drew, (Q5.out.2.1.chg (Chg.setCell w5 Q5.out.1.1.dom Q5.out.1.1.rg 14 none _) (fun i j h1 h2 e => by cases e; omega)).chg (Chg.refl (fun _ => False) _ _ (Q5.out.1.1.dom.setCell _ _)).drew (fun _ _ _ _ h => h), (Q5.out.2.2.trans ((HST.out _ (u64_range _).1 (u64_range _).2).2.mono (fun r h => by have : r.1 < 20 := h; show r.1 < 30; omega))).drew⟩ ?_
                    clear Q5 HST c14 f14 hst0 hst1
                    rintro w6 ⟨s6, q6, x6, k6⟩
                    have c1 := (x6.chg (Chg.alloc (fun _ => False) w6 q6.1.dom (.cells #[.int .i64 (-l)] 3)) (fun _ _ _ _ h => h)).cells.2.1
                    have hrd := (x6.chg (Chg.alloc (fun _ => False) w6 q6.1.dom (.cells #[.int .i64 (-l)] 3)) (fun _ _ _ _ h => h)).orr.rd
                    have hrl : x1.rest.length ≤ 100000000 := by
                      have h1 := HJE.out.1.restlen HC.out
                      rw [HN.out] at h1
                      have h2 : ({ x1 with opn := x1.opn - 1 } : XS).rest = x1.rest := rfl
                      rw [h2] at h1
                      omega
                    have hneg : IntKind.i64.wrap (-l) = -l := IntWalk.i64_in _ (by omega)
                    have HRD := Lib.hid hrd
                    have Q6 := Lib.hid (And.intro q6 k6)
                    have hbb : Below w6.heap.size w6 (w6.alloc (.cells #[.int .i64 (-l)] 3)) := (Below.refl _ _).alloc (Nat.le_refl _) _
                    have hown : (w6.alloc (.cells #[.int .i64 (-l)] 3)).ownsRow w6.heap.size 3 1 (.slice (some ⟨w6.heap.size, 0, none⟩) 1 1) [Value.int .i64 (-l)].length [Value.int .i64 (-l)] :=
                      ⟨by simp, .inr ⟨w6.heap.size, 1, _, rfl, Nat.le_refl _, by rw [alloc_heap, if_pos rfl], by simp, by unfold maxLen; omega, by simp, by simp⟩⟩
                    have HBB := Lib.hid (And.intro hbb hown)
                    have HCL9 : Hid (Learnt z F (-l :: x1.rest) ∧ (∀ m, m ∈ -l :: x1.rest → Lit z.p.n m) ∧ (-l :: x1.rest).length ≤ 100000000) := by
                      refine ⟨.inr ⟨top, _, b, HJE.out, HT0.out, by rw [HL.out]⟩, fun m hm => ?_, ?_⟩
                      · rcases List.mem_cons.1 hm with rfl | hm
                        · have := HK.out.wf.tra _ (getD_mem (d := 0) hbl)
                          rw [HL.out] at this
                          exact this.neg
                        · have := HK.out.wf.tra _ (HJE.out.1.rs m hm).2.1
                          have := this.neg
                          rw [Int.neg_neg] at this
                          exact this
                      · have h1 := HJE.out.1.restlen HC.out
                        have h3 := HJE.out.1.al
                        rw [HN.out] at h1
                        have h2 : ({ x1 with opn := x1.opn - 1 } : XS).rest = x1.rest := rfl
                        rw [h2] at h1
                        have h4 := HTT.out
                        obtain ⟨hp, hpi, -⟩ := HC.out.pi
                        have h5 := nodup_range z.p.n.toNat 1 ((-l).natAbs :: x1.rest.map Int.natAbs) (by
                          rw [List.nodup_cons]
                          refine ⟨fun hm => ?_, HJE.out.1.rn⟩
                          obtain ⟨m, hm, e⟩ := List.mem_map.1 hm
                          have h6 := (HJE.out.1.rs m hm).2.2
                          have h7 := (topB_iff.1 HJE.out.2.2.1).2
                          rw [HL.out, ← Int.natAbs_neg, ← e] at h7
                          omega) (fun v hv => by
                          have hx : ∀ m : Int, -m ∈ z.p.tra → 1 ≤ m.natAbs ∧ m.natAbs < 1 + z.p.n.toNat := fun m hm => by
                            have hl := HK.out.wf.tra _ hm
                            have h1 := hl.1
                            have h2 := hl.2
                            rw [Int.natAbs_neg] at h2
                            omega
                          rcases List.mem_cons.1 hv with rfl | hv
                          · exact hx (-l) (by rw [Int.neg_neg, ← HL.out]; exact getD_mem hbl)
                          · obtain ⟨m, hm, rfl⟩ := List.mem_map.1 hv
                            exact hx m (HJE.out.1.rs m hm).2.1)
                        simp only [List.length_cons, List.length_map] at h5 ⊢
                        rw [HN.out] at h5
                        omega
                    clear q6 x6 k6 hrd hbb hown ho1 ho2 b1 hsb hlv
                    go_wp2_with (first | (at_builtin; refine wpList_app_any (w0 := w6) Try.underlying23 info3 rfl rfl _ _ rfl _ _ rfl HBB.out.2 HBB.out.1 (ints x1.rest) rfl HRD.out (ints_one _) (by omega) (by simp; omega) ?_; rintro a7 n7 c7 w7 ho7 hb7 - - hn7; obtain ⟨R7, o7, k7, d7⟩ := OwnS.tag (S := (· = (25, 0))) (r := (25, 0)) rfl Q6.out.1.1.dom (Below.toChg Q6.out.1.1.dom hb7 _) ho7; have HAT := Lib.hid (attach_calls (c := -l :: x1.rest) (Q6.out.1.chg k7 (fun i j hi e => by cases e; omega) d7) o7 (HK.out.att HCL9.out.2.1 HCL9.out.2.2)); have HCH := Lib.hid (Q6.out.2.trans (k7.mono (by rintro r rfl; simp))); clear ho7 hb7 hn7 o7 k7 d7 Q6 HRD HBB) | (go_at_call 72; refine HAT.out.mono ?_; rintro e w8 ⟨rfl, R8, u8, s8, q8, k8⟩; have Q8 := Lib.hid (And.intro q8 (HCH.out.trans k8)); clear q8 k8 HAT HCH))
                    go_end0
                    exact ⟨rfl, _, HCL9.out.1, R8, u8, s8, Q8.out.1, Q8.out.2⟩
                  · obtain ⟨ci2, hre, hjb⟩ := HFO.out.2.2 h1
                    have b1 : (x1.opn - 1 == 0) = false := by simp [h1]
                    have HJB := Lib.hid hjb
                    have hcil : ci2 < z.p.cls.length := hjb.1
                    rw [HL.out] at hre
                    clear h1 hjb HFO Q4 X5 hso
                    obtain ⟨rb2, rc2, h5, rcell, -, -, -⟩ := Q5.out.1.1.atRea (i := l.natAbs) HLO.out.rea
                    rw [hre] at rcell
                    have hrl : l.natAbs < z.p.rea.length := HLO.out.rea
                    obtain ⟨cb2, cc2, h0, ccell, -, -, -⟩ := Q5.out.1.1.atCls hcil
                    obtain ⟨cv2, hcv2⟩ : ∃ cv, u.crow.getD ci2 undef = cv := ⟨_, rfl⟩
                    rw [hcv2] at ccell
                    have HCV2 := Lib.hid hcv2
                    clear hcv2 hre
                    go_upto_region 17 with (fail)
                    go_quiet (first | (go_at_call 71; exact mag_quiet l (by omega) (by omega)))
                    go_wp2
                    go_roundg b
                    case measure => omega
                    case rel => exact ⟨_, ci2, l, cv2, R3, s3, vr3, rfl, rfl, rfl, by omega, HCV2, by have := HJB.out; rw [HL.out] at this; exact this, Q5.out.1.drewN nq, Q5.out.2.1.drewN Q5.out.1.1.dom nq, Q5.out.2.2.drewN nq⟩
                · have bl : (z.lev.getD l.natAbs 0 != top) = true := by simp only [bne_iff_ne]; exact hlv
                  have HNX := Lib.hid (HSK.out (by
                    rcases hb : topB z top x1.seen b with _ | _
                    · rfl
                    · exact absurd (HTB.out.1 hb).2 hlv))
                  clear HTB HFD HSK hlv
                  generalize z.lev.getD l.natAbs 0 = lv at *
                  go_wp2_with fail
                  go_quiet (first | (go_at_call 71; exact mag_quiet l (by omega) (by omega)))
                  go_wp2
                  go_roundg b
                  case measure => omega
                  case rel => exact ⟨_, rfl, by go_num, by omega, HNX, Q3.out.1.drewN nq, Q3.out.2.1.drewN Q3.out.1.1.dom nq, Q3.out.2.2.drewN nq⟩
              · have hs' : x1.seen.getD l.natAbs false = false := by simpa using hs
                rw [hs'] at scell
                have HNX := Lib.hid (HSK.out (by
                  rcases hb : topB z top x1.seen b with _ | _
                  · rfl
                  · exact absurd (HTB.out.1 hb).1 hs))
                clear HTB HFD HSK hs hs'
                generalize z.lev.getD l.natAbs 0 = lv at *
                go_wp2_with fail
                go_quiet (first | (go_at_call 71; exact mag_quiet l (by omega) (by omega)))
                go_wp2
                go_roundg b
                case measure => omega
                case rel => exact ⟨_, rfl, by go_num, by omega, HNX, Q3.out.1.drewN nq, Q3.out.2.1.drewN Q3.out.1.1.dom nq, Q3.out.2.2.drewN nq⟩
end Go.Proofs.Ytjbdiobnlmhidaa
namespace Go.Proofs.Ytjbdiobnlmhidaa
open Go Go.RowKit Go.Maps

/-- block b is a map from integers to truth values that answers f -/
def MapB (w : World) (b n : Nat) (f : Int → Bool) : Prop := ∃ D : DataW Unit, w.ownsMap Try.prog 3 (plainElem Try.prog 4) b n D ∧ ∀ x, D.atKey (.int .i64 x) (.lit (.bool false)) = .lit (.bool (f x))

theorem law3 : Keyed Try.prog 3 := int_keyed Try.underlying3
theorem zero4 (w : World) : (zeroValue 4).run Try.prog w = .ok (.bool false) w := by kernel_rfl

theorem keyl (x : Int) : WideAt.IsKeyLit (.int .i64 x) := trivial
theorem MapB.same {w w' : World} {b n : Nat} {f : Int → Bool} (h : MapB w b n f) (hb : w'.heap[b]? = w.heap[b]?) : MapB w' b n f := by
  obtain ⟨D, ⟨es, clock, h1, h2⟩, h3⟩ := h
  exact ⟨D, ⟨es, clock, by rw [hb]; exact h1, h2⟩, h3⟩
theorem MapB.lt {w : World} {b n : Nat} {f : Int → Bool} (h : MapB w b n f) : b < w.heap.size := by
  obtain ⟨D, h1, -⟩ := h
  exact h1.lt
theorem MapB.made (w : World) : MapB (w.alloc (.map #[] 0)) w.heap.size 0 (fun _ => false) := ⟨.map [], World.ownsMap_made _ _ _ _, fun _ => rfl⟩

theorem lit_ne {x y : Int} (h : x ≠ y) : (Lit.int .i64 x) ≠ (Lit.int .i64 y) := fun e => h (by cases e; rfl)

theorem plain_bool_inv {v : Value} {y : Bool} {ps : List MemPlace} (h : plainElem (H := Unit) Try.prog 4 v = some (.lit (.bool y), ps)) : v = .bool y := by
  unfold plainElem at h
  rw [Try.underlying4] at h
  cases v <;> simp at h
  rw [h.1]

section
variable {ops : Array Oper} {rest : List Oper} {o : Oper} {a : Act} {Q : Exit → Act → World → Prop} {w : World}

theorem MapB.put_run {b n : Nat} {f : Int → Bool} (h : MapB w b n f) (hn : n < 1000000000000) {x : Int} (hx : -9000000000000000000 ≤ x ∧ x ≤ 9000000000000000000) (y : Bool) :
    ∃ w', (Instr.mapUpdate 91 (.map (some b)) (.int .i64 x) (.bool y)).run Try.prog w = .ok () w' ∧ MapB w' b (n + 1) (fun z => if z = x then y else f z) ∧ w.grownBy w' (some b) := by
  obtain ⟨D, h1, h2⟩ := h
  obtain ⟨w', hrun, r1, r2⟩ := h1.update (e := 4) law3 Try.underlying91 (by unfold maxLen; omega) (keyOf_int_mk Try.underlying3 (WalkArith.wf_i64 (by omega : -9223372036854775808 ≤ x ∧ x ≤ 9223372036854775807))) (plainElem_bool Try.underlying4 y)
  refine ⟨w', hrun, ⟨_, r1, fun z => ?_⟩, r2⟩
  show _ = DataW.lit (Lit.bool (if z = x then y else f z))
  by_cases e : z = x
  · subst e
    rw [if_pos rfl, atKey_put_same h1.isMap (keyl z)]
  · rw [if_neg e, atKey_put_other (lit_ne e)]
    exact h2 z

theorem wpList_mapb_put (hg : o.guard = none) (m x v : Operand) (hop : o.op = Op.mapUpdate 91 m x v ∨ o.op = Op.insert 91 m x v) {b n : Nat} {f : Int → Bool} (hm : a.eval m = .map (some b)) (h : MapB w b n f) (hn : n < 1000000000000)
    {k : Int} (hx : a.eval x = .int .i64 k) (hk : -9000000000000000000 ≤ k ∧ k ≤ 9000000000000000000) {y : Bool} (hv : a.eval v = .bool y)
    (hK : ∀ w', MapB w' b (n + 1) (fun z => if z = k then y else f z) → w.grownBy w' (some b) → wpList Try.prog ops Q rest (a.put o.dst undef) w') : wpList Try.prog ops Q (o :: rest) a w := by
  refine wpList_plain hg fun K' hK' => ?_
  obtain ⟨w', hrun, r1, r2⟩ := h.put_run hn hk y
  unfold Oper.wp
  rcases hop with hop | hop
  · simp [execOp, hop, hm, hx, hv, hrun, Result.andThen]
    exact hK' _ _ (hK w' r1 r2)
  · simp [execOp, hop, hm, hx, hv, hrun, Result.andThen]
    exact hK' _ _ (hK w' r1 r2)

theorem wpList_mapb_look (hg : o.guard = none) (m x : Operand) (hop : o.op = Op.lookup 91 m x false) {b n : Nat} {f : Int → Bool} (hm : a.eval m = .map (some b)) (h : MapB w b n f)
    {k : Int} (hx : a.eval x = .int .i64 k) (hk : -9000000000000000000 ≤ k ∧ k ≤ 9000000000000000000)
    (hK : wpList Try.prog ops Q rest (a.put o.dst (.bool (f k))) w) : wpList Try.prog ops Q (o :: rest) a w := by
  refine wpList_plain hg fun K' hK' => ?_
  obtain ⟨D, h1, h2⟩ := h
  obtain ⟨v, ps, hrun, hv⟩ := h1.lookup (e := 4) law3 Try.underlying91 (zero4 w) (plainElem_bool Try.underlying4 false) (keyOf_int_mk Try.underlying3 (WalkArith.wf_i64 (by omega : -9223372036854775808 ≤ k ∧ k ≤ 9223372036854775807)))
  rw [h2 k] at hv
  obtain rfl := plain_bool_inv hv
  unfold Oper.wp
  simp [execOp, hop, hm, hx, hrun, Result.andThen]
  exact hK' _ _ hK

theorem wpList_mapb_del (hg : o.guard = none) (m x : Operand) (hop : o.op = Op.call { callee := Callee.builtin Builtin.delete, args := #[m, x], argTypes := #[91, 3] }) {b n : Nat} {f : Int → Bool} (hm : a.eval m = .map (some b)) (h : MapB w b n f)
    {k : Int} (hx : a.eval x = .int .i64 k) (hk : -9000000000000000000 ≤ k ∧ k ≤ 9000000000000000000)
    (hK : ∀ w', MapB w' b n (fun z => if z = k then false else f z) → w.grownBy w' (some b) → wpList Try.prog ops Q rest (a.put o.dst (.tuple #[])) w') : wpList Try.prog ops Q (o :: rest) a w := by
  obtain ⟨D, h1, h2⟩ := h
  refine wpList_delete_own w hg m x 91 3 hop 4 law3 Try.underlying91 _ b n D hm h1 _ (.int .i64 k) hx (keyOf_int_mk Try.underlying3 (WalkArith.wf_i64 (by omega : -9223372036854775808 ≤ k ∧ k ≤ 9223372036854775807))) (fun w' r1 r2 => ?_)
  have hlt := h1.lt
  refine hK w' ⟨_, r1, fun z => ?_⟩ ?_
  · show _ = DataW.lit (Lit.bool (if z = k then false else f z))
    by_cases e : z = k
    · subst e
      rw [if_pos rfl, atKey_del_same]
    · rw [if_neg e, atKey_del_other (lit_ne e)]
      exact h2 z
  · obtain ⟨es, clock, es', clock', hb, rfl⟩ := r2
    exact ⟨rfl, rfl, rfl, by simp [ChangeMaps.setBlock], fun i _ hi => ChangeMaps.heap_setBlock_other hb _ (fun e => hi (by rw [e]))⟩
end

/-- the assumptions on which a contradiction depends: positions from k on are passed -/
structure KInv (z : SS) (l : Int) (seen : List Bool) (f : Int → Bool) (k : Nat) : Prop where
  sl : (seen.length : Int) = z.p.n + 1
  s0 : seen.getD l.natAbs false = true
  f0 : f l = true
  os : ∀ t, k ≤ t → t < z.p.tra.length → seen.getD (z.p.tra.getD t 0).natAbs false = true → z.lev.getD (z.p.tra.getD t 0).natAbs 0 = 0 ∨ (z.p.rea.getD (z.p.tra.getD t 0).natAbs 0 < 0 ∧ f (z.p.tra.getD t 0) = true) ∨
    ∃ j : Nat, z.p.rea.getD (z.p.tra.getD t 0).natAbs 0 = j ∧ j < z.p.cls.length ∧ ∀ m, m ∈ z.p.cls.getD j [] → seen.getD m.natAbs false = true
  fo : ∀ x, f x = true → x = l ∨ ∃ t, t < z.p.tra.length ∧ z.p.tra.getD t 0 = x ∧ z.p.rea.getD x.natAbs 0 < 0 ∧ z.lev.getD x.natAbs 0 ≠ 0

section
variable {S : List (List Int)} {z : SS} {l : Int} {seen : List Bool} {f : Int → Bool} {k : Nat}
theorem KInv.skip (h : KInv z l seen f (k + 1)) (hn : seen.getD (z.p.tra.getD k 0).natAbs false = false ∨ z.lev.getD (z.p.tra.getD k 0).natAbs 0 = 0) : KInv z l seen f k :=
  ⟨h.sl, h.s0, h.f0, fun t h1 h2 h3 => by
    by_cases e : t = k
    · subst e
      rcases hn with hn | hn
      · rw [hn] at h3; cases h3
      · exact .inl hn
    · exact h.os t (by omega) h2 h3, h.fo⟩
theorem KInv.dec (h : KInv z l seen f (k + 1)) (hk : k < z.p.tra.length) (hr : z.p.rea.getD (z.p.tra.getD k 0).natAbs 0 < 0) (hl : z.lev.getD (z.p.tra.getD k 0).natAbs 0 ≠ 0) : KInv z l seen (fun x => if x = z.p.tra.getD k 0 then true else f x) k :=
  ⟨h.sl, h.s0, by show (if l = _ then true else f l) = true; rw [h.f0]; simp, fun t h1 h2 h3 => by
    by_cases e : t = k
    · subst e
      exact .inr (.inl ⟨hr, by simp⟩)
    · rcases h.os t (by omega) h2 h3 with h4 | ⟨h4, h5⟩ | h4
      · exact .inl h4
      · exact .inr (.inl ⟨h4, by show (if _ then true else f _) = true; rw [h5]; simp⟩)
      · exact .inr (.inr h4), fun x hx => by
    have hx' : (if x = z.p.tra.getD k 0 then true else f x) = true := hx
    by_cases e : x = z.p.tra.getD k 0
    · subst e; exact .inr ⟨k, hk, rfl, hr, hl⟩
    · rw [if_neg e] at hx'; exact h.fo x hx'⟩
theorem KInv.reason (hc : CI S z) (h : KInv z l seen f (k + 1)) (hk : k < z.p.tra.length) {j : Nat} (hr : z.p.rea.getD (z.p.tra.getD k 0).natAbs 0 = j) : j < z.p.cls.length ∧ KInv z l (markL seen (z.p.cls.getD j [])) f k := by
  obtain ⟨hp, hpi, -⟩ := hc.pi
  rcases hpi.rs k hk with ⟨h1, -⟩ | ⟨j', h1, h2, h3, h4⟩
  · omega
  · obtain rfl : j' = j := by omega
    have hlt : ∀ m, m ∈ z.p.cls.getD j' [] → m.natAbs < seen.length := hpi.lits_lt h.sl h2
    have hget := fun v => markL_get (z.p.cls.getD j' []) seen v hlt
    refine ⟨h2, by rw [markL_len]; exact h.sl, (hget _).2 (.inl h.s0), h.f0, fun t t1 t2 t3 => ?_, h.fo⟩
    have mono : (z.lev.getD (z.p.tra.getD t 0).natAbs 0 = 0 ∨ (z.p.rea.getD (z.p.tra.getD t 0).natAbs 0 < 0 ∧ f (z.p.tra.getD t 0) = true) ∨
        ∃ j : Nat, z.p.rea.getD (z.p.tra.getD t 0).natAbs 0 = j ∧ j < z.p.cls.length ∧ ∀ m, m ∈ z.p.cls.getD j [] → seen.getD m.natAbs false = true) →
        z.lev.getD (z.p.tra.getD t 0).natAbs 0 = 0 ∨ (z.p.rea.getD (z.p.tra.getD t 0).natAbs 0 < 0 ∧ f (z.p.tra.getD t 0) = true) ∨
        ∃ j : Nat, z.p.rea.getD (z.p.tra.getD t 0).natAbs 0 = j ∧ j < z.p.cls.length ∧ ∀ m, m ∈ z.p.cls.getD j [] → (markL seen (z.p.cls.getD j' [])).getD m.natAbs false = true := fun h5 => by
      rcases h5 with h5 | h5 | ⟨j, e1, e2, e3⟩
      · exact .inl h5
      · exact .inr (.inl h5)
      · exact .inr (.inr ⟨j, e1, e2, fun m hm => (hget _).2 (.inl (e3 m hm))⟩)
    by_cases e : t = k
    · subst e
      exact .inr (.inr ⟨j', h1, h2, fun m hm => (hget _).2 (.inr ⟨m, hm, rfl⟩)⟩)
    · rcases (hget _).1 t3 with t3 | ⟨m, hm, em⟩
      · exact mono (h.os t (by omega) t2 t3)
      · exfalso
        by_cases e2 : m = z.p.tra.getD k 0
        · rw [e2] at em
          exact e (hpi.pos_inj t2 hk em.symm)
        · obtain ⟨t', ht', et⟩ := mem_getD (0 : Int) (h4 m hm e2)
          rw [List.length_take] at ht'
          rw [getD_take (by omega)] at et
          have := hpi.pos_inj (i := t') (j := t) (by omega) t2 (by rw [et, Int.natAbs_neg, em])
          omega

def coreL : List Int → (Int → Bool) → List Int
  | [], _ => []
  | m :: r, f => if f m = true then m :: coreL r (fun y => if y = m then false else f y) else coreL r f
theorem coreL_cons (m : Int) (r : List Int) (f : Int → Bool) : coreL (m :: r) f = if f m = true then m :: coreL r (fun y => if y = m then false else f y) else coreL r f := rfl
theorem coreL_mem : ∀ (u : List Int) (f : Int → Bool) (x : Int), x ∈ coreL u f ↔ x ∈ u ∧ f x = true := by
  intro u
  induction u with
  | nil => intro f x; simp [coreL]
  | cons m r ih =>
    intro f x
    unfold coreL
    by_cases hm : f m = true
    · rw [if_pos hm, List.mem_cons, ih, List.mem_cons]
      by_cases e : x = m
      · subst e; simp [hm]
      · simp [e]
    · rw [if_neg hm, ih, List.mem_cons]
      by_cases e : x = m
      · subst e; simp [hm]
      · simp [e]
theorem coreL_nodup : ∀ (u : List Int) (f : Int → Bool), (coreL u f).Nodup := by
  intro u
  induction u with
  | nil => intro f; exact List.nodup_nil
  | cons m r ih =>
    intro f
    unfold coreL
    split
    · rw [List.nodup_cons]
      exact ⟨fun h => by have := ((coreL_mem _ _ _).1 h).2; simp at this, ih _⟩
    · exact ih _
theorem coreL_sub : ∀ (u : List Int) (f : Int → Bool), (coreL u f).Sublist u := by
  intro u
  induction u with
  | nil => intro f; exact List.Sublist.refl _
  | cons m r ih =>
    intro f
    unfold coreL
    split
    · exact (ih _).cons_cons m
    · exact (ih _).cons m
theorem coreL_chosen (u : List Int) (f : Int → Bool) : chosenB (coreL u f) u = true := by
  unfold chosenB
  rw [Bool.and_eq_true, decide_eq_true_eq]
  exact ⟨List.isSublist_iff_sublist.2 (coreL_sub u f), coreL_nodup u f⟩

/-- the clauses with the core's literals are in conflict -/
theorem KInv.conf (hc : CI S z) (h : KInv z l seen f 0) (hl : -l ∈ z.p.tra) (hl0 : l ≠ 0) {under : List Int} (hu : l ∈ under) (hdec : ∀ t, t < z.p.tra.length → z.p.rea.getD (z.p.tra.getD t 0).natAbs 0 < 0 → z.p.tra.getD t 0 ∈ under) :
    Conf S (coreL under f) := by
  obtain ⟨hp, hpi, -⟩ := hc.pi
  have key : ∀ N t, t < N → t < z.p.tra.length → (seen.getD (z.p.tra.getD t 0).natAbs false = true ∨ z.lev.getD (z.p.tra.getD t 0).natAbs 0 = 0) → Der S (coreL under f) (z.p.tra.getD t 0) := by
    intro N
    induction N with
    | zero => intro t h; omega
    | succ N ih =>
      intro t ht htl hst
      have step : ∀ k : Nat, z.p.rea.getD (z.p.tra.getD t 0).natAbs 0 = k → (∀ m, m ∈ z.p.cls.getD k [] → m ≠ z.p.tra.getD t 0 → seen.getD m.natAbs false = true ∨ z.lev.getD m.natAbs 0 = 0) → Der S (coreL under f) (z.p.tra.getD t 0) := fun k hk hall => by
        rcases hpi.rs t htl with ⟨h1, -⟩ | ⟨k', h1, h2, h3, h4⟩
        · omega
        · obtain rfl : k' = k := by omega
          have hsl := hpi.sl
          refine .uni (c := S.getD k' []) (getD_mem (by omega)) ((hpi.ss k' _).1 h3) (fun m hm hne => ?_)
          have hm' := (hpi.ss k' m).2 hm
          obtain ⟨t', ht', et⟩ := mem_getD (0 : Int) (h4 m hm' hne)
          rw [List.length_take] at ht'
          rw [getD_take (by omega)] at et
          rw [← et]
          refine ih t' (by omega) (by omega) ?_
          rw [et, Int.natAbs_neg]
          exact hall m hm' hne
      by_cases hz : z.lev.getD (z.p.tra.getD t 0).natAbs 0 = 0
      · rcases hpi.rs t htl with ⟨h1, -⟩ | ⟨k, h1, h2, h3, h4⟩
        · have := lvl_pos (hc.dec t htl h1)
          rw [hc.lv t htl] at hz
          omega
        · refine step k h1 (fun m hm hne => .inr ?_)
          obtain ⟨t', ht', et⟩ := mem_getD (0 : Int) (h4 m hm hne)
          rw [List.length_take] at ht'
          rw [getD_take (by omega)] at et
          have e1 := hc.lv t' (by omega)
          rw [et, Int.natAbs_neg] at e1
          rw [hc.lv t htl] at hz
          have := lvl_mono z.lim (s := t') (t := t) (by omega)
          omega
      · rcases h.os t (Nat.zero_le _) htl (hst.resolve_right hz) with h1 | ⟨h1, h2⟩ | ⟨j, h1, h2, h3⟩
        · exact absurd h1 hz
        · exact .asm ((coreL_mem _ _ _).2 ⟨hdec t htl h1, h2⟩)
        · exact step j h1 (fun m hm _ => .inl (h3 m hm))
  obtain ⟨t, ht, et⟩ := mem_getD (0 : Int) hl
  have h1 := key (t + 1) t (by omega) ht (.inl (by rw [et, Int.natAbs_neg]; exact h.s0))
  rw [et] at h1
  exact .inl ⟨l, hl0, .asm ((coreL_mem _ _ _).2 ⟨hu, h.f0⟩), h1⟩
end

theorem MapB.below {base : Nat} {w w' : World} {b n : Nat} {f : Int → Bool} (h : MapB w b n f) (k : Below base w w') (hb : b < base) : MapB w' b n f := h.same (k.block b hb)

theorem own_del {w0 w w' : World} {mb N N' n c : Nat} {a : Option Addr} {f f' : Int → Bool} {l : List Int} (h : MapB w mb N f) (ho : w.ownsRow w0.heap.size 3 1 (.slice a n c) (ints l).length (ints l)) (hb : Below w0.heap.size w0 w) (h' : MapB w' mb N' f') (hg : w.grownBy w' (some mb)) (hm : w0.heap.size ≤ mb) :
    MapB w' mb N' f' ∧ w'.ownsRow w0.heap.size 3 1 (.slice a n c) (ints l).length (ints l) ∧ Below w0.heap.size w0 w' := by
  refine ⟨h', ownsRow_of_block ho (fun b hb' => hg.block b (ownsRow_lt ho b hb') (fun e => ?_)), hb.grown hg hb.size (fun k hk => by cases hk; exact hm)⟩
  cases e
  obtain ⟨D, ⟨es, clock, h1, -⟩, -⟩ := h
  obtain ⟨-, h2 | ⟨g2, cap, cur, h2, -, h3, -⟩⟩ := ho
  · rw [h2.1] at hb'; cases hb'
  · rw [h2] at hb'
    simp only [Value.ownBlock, Option.some.injEq] at hb'
    rw [hb', h1] at h3
    cases h3

def CorePost (w : World) (z : SS) (l : Int) (under : List Int) (e : Ending) (w' : World) : Prop :=
  ∃ (seen : List Bool) (f : Int → Bool) (a : Option Addr) (n c : Nat), e = .returned (.slice a n c) ∧ KInv z l seen f 0 ∧ w'.ownsRow w.heap.size 3 1 (.slice a n c) (ints (coreL under f)).length (ints (coreL under f)) ∧ Below w.heap.size w w'

set_option maxRecDepth 100000 in
set_option maxHeartbeats 16000000 in
theorem core_calls {R : Roles} {w : World} {g : Nat} {u : PV} {s : SV} {z : SS} {S : List (List Int)} (h : SRep R w g u s z) (hk : SOk z) (hc : CI S z) {B : Nat → Prop} {v : Value} {under : List Int} (hv : RdS w B v (ints under)) (hu : ∀ x, x ∈ under → Lit z.p.n x) (hul : under.length ≤ 1000000000) {l : Int} (hl : Lit z.p.n l) :
    Calls Try.prog 62 #[.pointer (some ⟨g, 0, none⟩), .int .i64 l, v] w (CorePost w z l under) := by
  obtain ⟨ua, uc, rfl, hu1, hu2⟩ := hv.form
  rw [ints_length] at hu1 hv ⊢
  unfold maxLen at hu2
  obtain ⟨n, hn⟩ : ∃ n : Nat, z.p.n = n := ⟨z.p.n.toNat, by have := hk.wf.n0; omega⟩
  have hnm := hk.wf.nmax
  rw [hn] at hnm
  have hmm := @run_makeMap Try.prog
  have m36 := run_mk (t := 36) (E := 4) Try.underlying36 info4 rfl (by omega) ((n : Int) + 1) (n + 1) (by omega) (by omega)
  have hs1 : IntKind.i64.wrap ((n : Int) + 1) = (n : Int) + 1 := IntWalk.i64_in _ (by omega)
  have hl2 := hl.2
  rw [hn] at hl2
  have hla : (l.natAbs : Int) ≤ 100000000 := by omega
  have hln : l.natAbs < n + 1 := by omega
  have H := Lib.hid (And.intro h hv.lt)
  have HK := Lib.hid hk
  have HC := Lib.hid hc
  have HU := Lib.hid hu
  have HL := Lib.hid hl
  have HN := Lib.hid hn
  have HLVL : Hid ((z.lev.length : Int) = n + 1) := by show _ = _; rw [← hn]; exact hk.lev
  obtain ⟨mb, hmb⟩ : ∃ mb, w.heap.size = mb := ⟨_, rfl⟩
  have hm0 : MapB (w.alloc (.map #[] 0)) mb 0 (fun _ => false) := by rw [← hmb]; exact MapB.made w
  clear h hv hk hc hu hl hn hl2
  go_enter Try.func62, Try.ntmps62
  go_upto_region 2 with (refine wpList_mapb_put rfl _ _ _ (.inr rfl) rfl hm0 (by omega) (k := l) rfl (by omega) (y := true) rfl ?_; intro w1 hm1 hg1)
  refine cutW (fun w1 => MapB w1 mb 1 (fun x => if x = l then true else false) ∧ Below mb w w1 ∧ mb < w1.heap.size) ?_ ?_
  · rw [← hmb] at hm1 hg1 ⊢
    exact ⟨hm1, ((Below.refl _ _).alloc (Nat.le_refl _) _).grown hg1 (by rw [alloc_size]; omega) (fun k hk => by cases hk; exact Nat.le_refl _), hm1.lt⟩
  clear hmm hm1 hg1 hm0
  rw [hmb] at H
  have HSR : Hid (∀ w', Below mb w w' → SRep R w' g u s z ∧ RdS w' (fun b => b < mb) (.slice ua under.length uc) (ints under)) := fun w' hb => ⟨H.out.1.below (by rw [hmb]; exact hb), H.out.2.belowB hb⟩
  have HMB := Lib.hid hmb
  clear H hmb
  rintro w1 ⟨m1, b1, z1⟩
  have h3 := (HSR.out w1 b1).1.1.cells.2.2.2.1
  rw [HN.out] at h3
  obtain ⟨sb, hsb⟩ : ∃ sb, w1.heap.size = sb := ⟨_, rfl⟩
  rw [hsb] at z1
  have Q1 := Lib.hid (And.intro m1 b1)
  clear m1 b1
  go_upto_region 3 with (fail)
  refine cutW (fun w2 => MapB w2 mb 1 (fun x => if x = l then true else false) ∧ Below mb w w2 ∧ Used w2 sb (List.replicate (n + 1) false)) ?_ ?_
  · refine ⟨Q1.out.1.same (by rw [alloc_heap, if_neg (by omega)]), Q1.out.2.alloc (by omega) _, ?_⟩
    rw [← hsb]; exact used_new _ _
  clear Q1 h3 m36 hs1 hsb
  rintro w2 ⟨m2, b2, u2⟩
  have uc2 := u2.cell (i := l.natAbs) (by simp; omega)
  have uf2 := u2.free l.natAbs
  have Q2 := Lib.hid (And.intro m2 (And.intro b2 u2))
  clear m2 b2 u2
  go_upto_region 4 with (go_at_call 71; refine (magnitude_calls l _ (by omega) (by omega)).mono ?_; rintro e w' ⟨rfl, rfl⟩)
  refine cutW (fun w3 => MapB w3 mb 1 (fun x => if x = l then true else false) ∧ Below mb w w3 ∧ Used w3 sb ((List.replicate (n + 1) false).set l.natAbs true)) ⟨Q2.out.1.same (setCell_heap_other _ (by omega)), Q2.out.2.1.setCell (by show mb ≤ sb; omega) _, Q2.out.2.2.set _ _⟩ ?_
  clear Q2 uc2 uf2
  rintro w3 ⟨m3, b3, u3⟩
  have KI : Hid (KInv z l ((List.replicate (n + 1) false).set l.natAbs true) (fun x => if x = l then true else false) z.p.tra.length) :=
    ⟨by rw [HN.out]; simp, by rw [getD_set, if_pos ⟨rfl, by simp; omega⟩], by simp, fun t h1 h2 => by omega, fun x hx => .inl (by by_cases e : x = l; exact e; simp [e] at hx)⟩
  obtain ⟨ta, tc, htf, htc1, htc2, -⟩ := (HSR.out w3 b3).1.1.tra.form
  rw [ints_length] at htf htc1
  have h6 := (HSR.out w3 b3).1.1.cells.2.2.2.2.2.2.1
  rw [htf] at h6
  have HTF := Lib.hid htf
  have Q3 := Lib.hid (And.intro m3 (And.intro b3 u3))
  have htl := HK.out.tra
  obtain ⟨T, hT⟩ : ∃ T, z.p.tra.length = T := ⟨_, rfl⟩
  have HTT := Lib.hid hT
  rw [hT] at h6 htc1 htl KI HTF
  clear hT m3 b3 u3 htf
  unfold maxLen at htc2
  generalize (List.replicate (n + 1) false).set l.natAbs true = seen0 at *
  generalize (fun x => if x = l then true else false) = f0 at *
  go_wp2_with fail
  go_loopg [9] T (fun kq v9 w' => ∃ (y : Int) (seen : List Bool) (f : Int → Bool) (N : Nat), v9 = .int .i64 y ∧ y + 1 = kq ∧ kq ≤ T ∧ N + kq ≤ T + 1 ∧ Hid (KInv z l seen f kq) ∧ Hid (MapB w' mb N f ∧ Below mb w w' ∧ Used w' sb seen))
  case atStart => exact ⟨_, seen0, f0, 1, rfl, by omega, Nat.le_refl _, by omega, KI, Q3.out⟩
  case round =>
    clear Q3 KI h6
    obtain ⟨y, seen, f, N, rfl, hy, hkT, hN, KI, Q⟩ := hrel
    rcases gk with _ | k
    · obtain rfl : y = -1 := by omega
      obtain ⟨wb, hwb⟩ : ∃ wb : World, wb = wr := ⟨_, rfl⟩
      have Q7 : Hid (MapB wr mb N f ∧ wr.ownsRow w.heap.size 3 1 (.slice none 0 0) (ints []).length (ints []) ∧ Below w.heap.size w wr) := ⟨Q.out.1, World.ownsRow_nil _ _ 3 1, by rw [HMB.out]; exact Q.out.2.1⟩
      have HG0 : Hid ([] ++ coreL (under.drop 0) f = coreL under f) := by show _ = _; simp
      clear Q hwb
      go_wp2_with fail
      go_loopg [13, 110] under.length (fun kq v13 v110 w' => ∃ (i : Nat) (out : List Int) (f' : Int → Bool) (oa : Option Addr) (oc : Nat), v110 = .int .i64 i ∧ i + kq = under.length ∧ v13 = .slice oa out.length oc ∧ out.length ≤ i ∧ Hid (MapB w' mb N f' ∧ w'.ownsRow w.heap.size 3 1 (.slice oa out.length oc) (ints out).length (ints out) ∧ Below w.heap.size w w') ∧ Hid (out ++ coreL (under.drop i) f' = coreL under f))
      case atStart => exact ⟨0, [], f, none, 0, rfl, by omega, rfl, by simp, Q7.out, HG0.out⟩
      case round =>
        clear Q7 HG0
        obtain ⟨i, out, f', oa, oc, rfl, hi, rfl, hol, Q, HG⟩ := hrel
        by_cases hlt : i < under.length
        · obtain ⟨ub, uo, rfl, ucell, -, -⟩ := (HSR.out wr (by rw [← HMB.out]; exact Q.out.2.2)).2.at hlt
          have hm := HU.out _ (getD_mem (d := 0) hlt)
          have hdr : under.drop i = under.getD i 0 :: under.drop (i + 1) := drop_getD 0 hlt
          have hst := HG.out
          rw [hdr] at hst
          generalize under.getD i 0 = m at *
          have hm2 := hm.2
          rw [HN.out] at hm2
          have hma : -9000000000000000000 ≤ m ∧ m ≤ 9000000000000000000 := by omega
          obtain ⟨hma1, hma2⟩ := hma
          clear hdr hm hm2
          rw [coreL_cons] at hst
          rcases hf : f' m with _ | _
          · rw [hf, if_neg (by simp)] at hst
            have HST := Lib.hid hst
            have HF := Lib.hid hf
            clear hst hf HG
            go_wp2_with (at_lookup; refine wpList_mapb_look rfl _ _ rfl rfl Q.out.1 (k := m) rfl ⟨hma1, hma2⟩ ?_; rw [HF.out])
            go_roundg (gk - 1)
            case measure => omega
            case rel => exact ⟨i + 1, out, f', oa, oc, by go_num, by omega, rfl, by omega, Q.out, HST.out⟩
          · rw [hf, if_pos rfl] at hst
            have HST := Lib.hid hst
            have HF := Lib.hid hf
            clear hst hf HG
            have hne : (Value.slice oa out.length oc).ownBlock ≠ some mb := fun e => by
              obtain ⟨D, ⟨es, clock, h1, -⟩, -⟩ := Q.out.1
              obtain ⟨-, h2 | ⟨g2, cap, cur, h2, -, h3, -⟩⟩ := Q.out.2.1
              · rw [h2.1] at e; cases e
              · rw [h2] at e
                simp only [Value.ownBlock, Option.some.injEq] at e
                rw [e, h1] at h3
                cases h3
            have hq1 : MapB (wr.alloc (.cells #[.int .i64 m] 3)) mb N f' := Q.out.1.same (by rw [alloc_heap, if_neg (by have := Q.out.1.lt; omega)])
            have HQ1 := Lib.hid hq1
            have HNE := Lib.hid hne
            clear hq1 hne
            go_wp2_with (first | (at_lookup; refine wpList_mapb_look rfl _ _ rfl rfl Q.out.1 (k := m) rfl ⟨hma1, hma2⟩ ?_; rw [HF.out]) | (at_builtin; refine wpList_app_new (w0 := w) Try.underlying23 info3 rfl rfl _ _ rfl _ _ rfl (Q.out.2.1.alloc _) (Q.out.2.2.alloc Q.out.2.2.size _) _ 1 1 [.int .i64 m] rfl rfl (cell_one_new _ _ _) (by simp [Value.oneCell']) (by omega) (by simp; omega) ?_; rintro a7 n7 c7 w7 ho7 hb7 hg7 - hn7; rw [show [Value.int .i64 m] = ints [m] from rfl, ints_append] at ho7; have hn8 : n7 = (out ++ [m]).length := (by simp [hn7]); clear hn7; subst hn8; have HM7 := Lib.hid (HQ1.out.same (hg7.block mb (by rw [alloc_size]; have := Q.out.1.lt; omega) (fun e => HNE.out e.symm))); have Q7 := Lib.hid (And.intro ho7 hb7); clear ho7 hb7 hg7 Q) | (at_delete; refine wpList_mapb_del rfl _ _ rfl rfl HM7.out (k := m) rfl ⟨hma1, hma2⟩ ?_; intro w8 hm8 hg8; have Q8 : Hid (MapB w8 mb N (fun y => if y = m then false else f' y) ∧ w8.ownsRow w.heap.size 3 1 (.slice a7 (out ++ [m]).length c7) (ints (out ++ [m])).length (ints (out ++ [m])) ∧ Below w.heap.size w w8) := (own_del HM7.out Q7.out.1 Q7.out.2 hm8 hg8 (Nat.le_of_eq HMB.out)); clear hm8 hg8 Q7 HM7))
            go_roundg (gk - 1)
            case measure => omega
            case rel => exact ⟨i + 1, out ++ [m], _, a7, c7, by go_num, by omega, by simp, by simp; omega, Q8.out, by have := HST.out; show (out ++ [m]) ++ _ = _; rw [List.append_assoc]; exact this⟩
        · obtain rfl : i = under.length := by omega
          have HF : Hid (out = coreL under f) := by have := HG.out; rw [List.drop_length] at this; show _ = _; simpa [coreL] using this
          go_wp2
          go_ret
          refine ⟨seen, f, oa, out.length, oc, rfl, KI.out, ?_, Q.out.2.2⟩
          have := Q.out.2.1
          rw [HF.out] at this ⊢
          exact this
    · obtain rfl : y = (k : Int) := by omega
      have hkT2 : k < T := by omega
      have hkl : k < z.p.tra.length := by rw [HTT.out]; exact hkT2
      have HSQ := Lib.hid (HSR.out wr Q.out.2.1).1
      obtain ⟨tb, tc2, h6, tcell, -, TE, -⟩ := HSQ.out.1.atTra hkl
      have e3 := HTF.out.symm.trans TE.out
      rw [HTT.out] at e3 h6
      simp only [Value.slice.injEq, true_and] at e3
      obtain ⟨rfl, rfl⟩ := e3
      have hlit := HK.out.wf.tra _ (getD_mem (d := 0) hkl)
      have hlo := HK.out.wf.litOk hlit
      have HSKIP := Lib.hid (fun hn => KInv.skip KI.out hn)
      have HDEC := Lib.hid (fun hr hl => KInv.dec KI.out hkl hr hl)
      have HREA := Lib.hid (fun (j : Nat) (hr : z.p.rea.getD (z.p.tra.getD k 0).natAbs 0 = j) => KInv.reason HC.out KI.out hkl hr)
      obtain ⟨x, hx⟩ : ∃ x, z.p.tra.getD k 0 = x := ⟨_, rfl⟩
      rw [hx] at tcell hlit hlo HSKIP HDEC HREA
      have hx2 := hlit.2
      rw [HN.out] at hx2
      have hxa : (x.natAbs : Int) ≤ 100000000 := by omega
      have hxn : x.natAbs < n + 1 := by omega
      have hsl : seen.length = n + 1 := by have := KI.out.sl; rw [HN.out] at this; omega
      have scell := Q.out.2.2.cell (i := x.natAbs) (by omega)
      have hrl : x.natAbs < z.p.rea.length := hlo.rea
      obtain ⟨vb, vc, h12, lcell, -, -⟩ := HSQ.out.atLev (i := x.natAbs) (by have := HLVL.out; omega)
      have hll1 : x.natAbs < z.lev.length := by have := HLVL.out; omega
      obtain ⟨rb2, rc2, h5, rcell, -, -, -⟩ := HSQ.out.1.atRea (i := x.natAbs) hrl
      clear hlit hlo hx hx2 TE hkl KI
      by_cases hs : seen.getD x.natAbs false = true
      · rw [hs] at scell
        clear hs
        by_cases hl0 : z.lev.getD x.natAbs 0 = 0
        · have KN := Lib.hid (HSKIP.out (.inr hl0))
          rw [hl0] at lcell
          clear HSKIP HDEC HREA hl0
          go_wp2_with (go_at_call 71; refine (magnitude_calls x _ (by omega) (by omega)).mono ?_; rintro e w' ⟨rfl, rfl⟩)
          go_roundg k
          case measure => omega
          case rel => exact ⟨_, seen, f, N, rfl, by omega, by omega, by omega, KN, Q.out⟩
        · have bl : (z.lev.getD x.natAbs 0 == 0) = false := beq_eq_false_iff_ne.2 hl0
          have HL0 := Lib.hid hl0
          clear HSKIP hl0
          generalize z.lev.getD x.natAbs 0 = lv at *
          by_cases hr : z.p.rea.getD x.natAbs 0 < 0
          · have KN := Lib.hid (HDEC.out hr HL0.out)
            clear HDEC HREA
            generalize z.p.rea.getD x.natAbs 0 = r at *
            have hN2 : N < 1000000000000 := by omega
            go_wp2_with (first | (go_at_call 71; refine (magnitude_calls x _ (by omega) (by omega)).mono ?_; rintro e w' ⟨rfl, rfl⟩) | (at_mapUpdate; refine wpList_mapb_put rfl _ _ _ (.inl rfl) rfl Q.out.1 hN2 (k := x) rfl (by omega) (y := true) rfl ?_; intro w5 hm5 hg5; have Q5 : Hid (MapB w5 mb (N + 1) (fun z => if z = x then true else f z) ∧ Below mb w w5 ∧ Used w5 sb seen) := ⟨hm5, Q.out.2.1.grown hg5 (Nat.le_of_lt (Nat.lt_of_lt_of_le z1 (Nat.le_of_lt Q.out.2.2.lt))) (fun k hk => by cases hk; exact Nat.le_refl _), by show _ = _; rw [hg5.block sb Q.out.2.2.lt (by intro e; cases e; omega)]; exact Q.out.2.2⟩; clear hm5 hg5 Q))
            go_roundg k
            case measure => omega
            case rel => exact ⟨_, seen, _, N + 1, rfl, by omega, by omega, by omega, KN, Q5.out⟩
          · obtain ⟨j, hj⟩ : ∃ j : Nat, z.p.rea.getD x.natAbs 0 = j := ⟨(z.p.rea.getD x.natAbs 0).toNat, by omega⟩
            obtain ⟨hjl, hkn⟩ := HREA.out j hj
            have KN := Lib.hid hkn
            rw [hj] at rcell
            clear HDEC HREA hkn hr
            have HJ := Lib.hid hj
            have hr0 : ¬ ((j : Int) < 0) := by omega
            clear hj
            obtain ⟨cb, cc, h0, ccell, -, -, -⟩ := HSQ.out.1.atCls hjl
            obtain ⟨ra, rc, er, hr1, hr2, -⟩ := HSQ.out.1.atCrow hjl
            have hlen := HK.out.wf.clen _ (getD_mem (d := []) hjl)
            have hlits := (HC.out.pi.elim fun hp h => h.1.lits_lt KN.out.sl hjl)
            obtain ⟨cl, hcl⟩ : ∃ cl, z.p.cls.getD j [] = cl := ⟨_, rfl⟩
            rw [hcl] at er hr1 hlen KN hlits
            rw [er] at ccell
            unfold maxLen at hr2
            have HER := Lib.hid er
            have HCL := Lib.hid hcl
            have HJL := Lib.hid hjl
            rw [markL_len] at hlits
            have HLT := Lib.hid hlits
            clear er hcl hlits
            go_wp2_with (go_at_call 71; refine (magnitude_calls x _ (by omega) (by omega)).mono ?_; rintro e w' ⟨rfl, rfl⟩)
            go_quiet (fail)
            have Q5 : Hid (MapB (wr.drewN nq) mb N f ∧ Below mb w (wr.drewN nq) ∧ Used (wr.drewN nq) sb (markL seen (cl.take 0))) := ⟨Q.out.1.same rfl, Q.out.2.1.trans ⟨rfl, rfl, rfl, Nat.le_refl _, fun _ _ => rfl⟩, Q.out.2.2⟩
            clear Q h0 ccell h5 rcell h6 tcell h12 lcell scell HSQ
            obtain ⟨ka, hka⟩ : ∃ ka : Nat, ka = k := ⟨_, rfl⟩
            go_wp2_with fail
            go_loopg [99] cl.length (fun kq v99 w' => ∃ i : Nat, v99 = .int .i64 i ∧ i + kq = cl.length ∧ Hid (MapB w' mb N f ∧ Below mb w w' ∧ Used w' sb (markL seen (cl.take i))))
            case atStart => exact ⟨0, rfl, by omega, Q5.out⟩
            case round =>
              clear Q5
              obtain ⟨i, rfl, hi, Q5⟩ := hrel
              by_cases hlt : i < cl.length
              · obtain ⟨ra', rc', er, -, -, hrow⟩ := (HSR.out wr Q5.out.2.1).1.1.atCrow HJL.out
                rw [HCL.out] at er hrow
                have e3 := HER.out.symm.trans er
                simp only [Value.slice.injEq, true_and] at e3
                obtain ⟨rfl, rfl⟩ := e3
                obtain ⟨rb, rfl, rcell, -, -⟩ := hrow i hlt
                have hyl := HLT.out _ (getD_mem (d := 0) hlt)
                have EM : Hid (markL seen (cl.take (i + 1)) = (markL seen (cl.take i)).set (cl.getD i 0).natAbs true) := by
                  show _ = _
                  rw [← take_oneI hlt]
                  unfold markL
                  rw [List.foldl_append]; rfl
                have hml := markL_len (cl.take i) seen
                generalize cl.getD i 0 = y at *
                generalize markL seen (cl.take i) = sn at *
                have hyn : y.natAbs < n + 1 := by omega
                have uc := Q5.out.2.2.cell (i := y.natAbs) (by omega)
                have uf := Q5.out.2.2.free y.natAbs
                have Q6 : Hid (MapB (wr.setCell ⟨sb, y.natAbs, none⟩ (.bool true)) mb N f ∧ Below mb w (wr.setCell ⟨sb, y.natAbs, none⟩ (.bool true)) ∧ Used (wr.setCell ⟨sb, y.natAbs, none⟩ (.bool true)) sb (markL seen (cl.take (i + 1)))) :=
                  ⟨Q5.out.1.same (setCell_heap_other _ (by omega)), Q5.out.2.1.setCell (by show mb ≤ sb; omega) _, by rw [EM.out]; exact Q5.out.2.2.set _ _⟩
                clear Q5 hrow er EM hml hyl
                go_wp2_with (go_at_call 71; refine (magnitude_calls y _ (by omega) (by omega)).mono ?_; rintro e w' ⟨rfl, rfl⟩)
                go_roundg (gk - 1)
                case measure => omega
                case rel => exact ⟨i + 1, by go_num, by omega, Q6.out⟩
              · obtain rfl : i = cl.length := by omega
                rw [List.take_length] at Q5
                go_wp2
                go_roundg ka
                case measure => omega
                case rel => exact ⟨_, markL seen cl, f, N, rfl, by omega, by omega, by omega, by rw [hka]; exact KN, Q5.out⟩
      · have hs' : seen.getD x.natAbs false = false := by simpa using hs
        rw [hs'] at scell
        have KN := Lib.hid (HSKIP.out (.inl hs'))
        clear HSKIP HDEC HREA hs hs'
        go_wp2_with (go_at_call 71; refine (magnitude_calls x _ (by omega) (by omega)).mono ?_; rintro e w' ⟨rfl, rfl⟩)
        go_roundg k
        case measure => omega
        case rel => exact ⟨_, seen, f, N, rfl, by omega, by omega, by omega, KN, Q.out⟩
end Go.Proofs.Ytjbdiobnlmhidaa
