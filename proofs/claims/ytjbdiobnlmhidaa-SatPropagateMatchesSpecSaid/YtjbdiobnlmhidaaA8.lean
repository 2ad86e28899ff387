/- Proved here: Needed keeps a proof, and Trim gives a minimal one. Conditions: those that each theorem states. -/
import Derived.Test.YtjbdiobnlmhidaaA7
import Derived.Test.YtjbdiobnlmhidaaA3
import Derived.WalkMore
import Derived.ScopeJumps
set_option linter.unusedVariables false
set_option linter.unusedSimpArgs false
namespace Go.Proofs.Ytjbdiobnlmhidaa
open Go Go.RowKit

def dropSt (q1 : PS) (d : List Int) (i : Nat) : Nat → PS
  | 0 => q1
  | j + 1 => (dropSt q1 d i j).putWatch (d.getD j 0) (((dropSt q1 d i j).watch (d.getD j 0)).erase (i : Int))

theorem dropSt_same (q1 : PS) (d : List Int) (i : Nat) : ∀ j, (dropSt q1 d i j).n = q1.n ∧ (dropSt q1 d i j).wat.length = q1.wat.length
  | 0 => ⟨rfl, rfl⟩
  | j + 1 => ⟨(dropSt_same q1 d i j).1, by show (List.set _ _ _).length = _; rw [List.length_set]; exact (dropSt_same q1 d i j).2⟩

theorem erase_at {W : List Int} (h : W.Nodup) {k : Nat} (hk : k < W.length) : W.erase (W.getD k 0) = W.take k ++ W.drop (k + 1) := by
  have e : W = W.take k ++ W.getD k 0 :: W.drop (k + 1) := by rw [← drop_cons 0 hk, List.take_append_drop]
  have hni : ¬ W.getD k 0 ∈ W.take k := fun hm => by
    have h' := h
    rw [e, List.nodup_append] at h'
    exact h'.2.2 _ hm _ (by simp) rfl
  generalize W.getD k 0 = x at *
  generalize hA : W.take k = A at *
  generalize hB : W.drop (k + 1) = B at *
  rw [e, List.erase_append_right _ hni, List.erase_cons_head]

set_option maxRecDepth 100000 in
set_option maxHeartbeats 16000000 in
theorem drop_calls {R : Roles} {w : World} {g T : Nat} {ext : List Value} {u : PV} {p : PS} (h : Rep R w g T ext u p) (hwf : WF p) (htb : p.tra.length < 1000000000) (hn : 0 < p.cls.length) (hub : p.uni.length ≤ 1000000000) (hrb : ∀ j, (p.wat.getD j []).length ≤ 1000000000)
    (hu : (p.cls.getD (p.cls.length - 1) []).length < 2 → 0 < p.uni.length)
    (hW : ∀ j, j < 2 → 2 ≤ (p.cls.getD (p.cls.length - 1) []).length → ((p.cls.length - 1 : Nat) : Int) ∈ (dropSt { p.reset with cls := p.cls.take (p.cls.length - 1) } (p.cls.getD (p.cls.length - 1) []) (p.cls.length - 1) j).watch ((p.cls.getD (p.cls.length - 1) []).getD j 0) ∧
      ((dropSt { p.reset with cls := p.cls.take (p.cls.length - 1) } (p.cls.getD (p.cls.length - 1) []) (p.cls.length - 1) j).watch ((p.cls.getD (p.cls.length - 1) []).getD j 0)).Nodup ∧ ((dropSt { p.reset with cls := p.cls.take (p.cls.length - 1) } (p.cls.getD (p.cls.length - 1) []) (p.cls.length - 1) j).watch ((p.cls.getD (p.cls.length - 1) []).getD j 0)).length ≤ 1000000000) :
    Calls Try.prog 65 #[.pointer (some ⟨g, 0, none⟩)] w (PPost R w g T ext p.drop (.tuple #[])) := by
  have hcn := hwf.cnum
  have hvl := hwf.val
  have hnm := hwf.nmax
  have hn0 := hwf.n0
  have HRS := Lib.hid (reset_calls h (fun l hl => by have := (hwf.tra l hl).2; omega) (by omega) htb)
  have HW := Lib.hid hW
  have HWF := Lib.hid hwf
  have HU := Lib.hid hu
  have HG0 := Lib.hid (And.intro h.glt h.rg)
  clear h hW hwf hu
  go_enter Try.func65, Try.ntmps65
  go_upto_region 1 with (first | (go_at_call 67; refine HRS.out.mono ?_; rintro e w1 ⟨rfl, R1, u1, r1, k1⟩; have Q1 := Lib.hid r1; have K1 := Lib.hid k1; clear r1 k1 HRS))
  obtain ⟨m, hm⟩ : ∃ m, p.cls.length = m + 1 := ⟨p.cls.length - 1, by omega⟩
  rw [show p.cls.length - 1 = m from by omega] at HW HU
  have ed : p.drop = if (p.cls.getD m []).length < 2 then { p.reset with cls := p.cls.take m, uni := p.uni.take (p.uni.length - 1) } else dropSt { p.reset with cls := p.cls.take m } (p.cls.getD m []) m 2 := by
    unfold PS.drop
    dsimp only
    rw [show p.reset.cls = p.cls from rfl, show p.cls.length - 1 = m from by omega]
    rfl
  have ED := Lib.hid ed
  clear ed
  have hmlt : m < p.reset.cls.length := by show m < p.cls.length; omega
  obtain ⟨cb, cc, h0, ccell, cf, CE, CR⟩ := Q1.out.atCls hmlt
  obtain ⟨ra, rc, er, hr1, hr2, hrow⟩ := Q1.out.atCrow hmlt
  rw [show p.reset.cls = p.cls from rfl, hm] at h0 CE
  rw [show p.reset.cls = p.cls from rfl] at er hr1 hrow
  rw [er] at ccell
  have f0 := Q1.out.free 0
  unfold maxLen at hr2
  have HROW := Lib.hid hrow
  have HER := Lib.hid er
  clear hrow er
  generalize hd : p.cls.getD m [] = d at *
  have hcc := Q1.out.cls.form
  have hcc2 : m + 1 ≤ cc ∧ cc ≤ 9223372036854775807 := by
    obtain ⟨a, c, e1, e2, e3, -⟩ := hcc
    rw [CE.out] at e1
    simp only [Value.slice.injEq] at e1
    obtain ⟨-, e4, e5⟩ := e1
    have := Q1.out.clen
    rw [show p.reset.cls = p.cls from rfl] at this
    unfold maxLen at e3
    omega
  obtain ⟨hcc3, hcc4⟩ := hcc2
  clear hcc
  go_upto_region 4 with (fail)
  refine cutW (fun w2 => (∃ u2, Rep R1 w2 g T ext u2 { p.reset with cls := p.cls.take m } ∧ u2.uni = u1.uni) ∧ OwnS R1 w2 (2, m) 3 (.slice ra d.length rc) (ints d) ∧ Chg PRole R w R1 w2) ?_ ?_
  · have hd1 := Q1.out.dom
    have ho := Q1.out.cls
    rw [CE.out] at ho
    have hl := Q1.out.clen
    have ht := ho.take m (by rw [hl]; show m ≤ p.cls.length; omega)
    have q := Q1.out.putCls (Chg.refl (fun _ => False) R1 w1 hd1) (fun _ _ _ _ _ h => h) hd1 (t := p.cls.take m) ht (by rw [List.length_take, List.length_take, hl]; rfl) (fun i hi => by
      have hi' : i < m := by simp at hi; omega
      rw [getD_takeL, getD_takeL, if_pos hi', if_pos hi']
      exact Q1.out.crow i (by show i < p.cls.length; omega))
    have hrow := Q1.out.crow m hmlt
    rw [HER.out, show p.reset.cls.getD m [] = d from hd] at hrow
    exact ⟨⟨_, q, rfl⟩, hrow.chg (Chg.setCell w1 hd1 Q1.out.rg 0 none _) (by simp), K1.out.trans ((Chg.setCell w1 hd1 Q1.out.rg 0 none _).mono (by simp))⟩
  clear h0 ccell cf CE CR f0 HER HROW Q1 K1 hcc3 hcc4 hmlt
  rintro w2 ⟨⟨u2, q2, hu2⟩, ho2, k2⟩
  have Q2 := Lib.hid q2
  have O2 := Lib.hid ho2
  have K2 := Lib.hid k2
  clear q2 ho2 k2 hu2
  by_cases hlt : d.length < 2
  · have hup := HU.out hlt
    obtain ⟨ub, uc, h1, -, -, UE, UR⟩ := Q2.out.atUni (i := 0) hup
    rw [show ({ p.reset with cls := p.cls.take m } : PS).uni = p.uni from rfl] at h1 UE
    have hform := Q2.out.uni.form
    have huc : p.uni.length ≤ uc ∧ uc ≤ 9223372036854775807 := by
      obtain ⟨a, c, e1, e2, e3, -⟩ := hform
      rw [UE.out] at e1
      simp only [Value.slice.injEq] at e1
      obtain ⟨-, e4, e5⟩ := e1
      unfold maxLen at e3
      rw [← e5] at e2 e3
      rw [← e4] at e2
      exact ⟨e2, e3⟩
    obtain ⟨huc1, huc2⟩ := huc
    obtain ⟨z, hz⟩ : ∃ z, p.uni.length = z + 1 := ⟨p.uni.length - 1, by omega⟩
    rw [hz] at h1 UE huc1
    have f1 := Q2.out.free 1
    have e1 : w2.drew.cell? ⟨g, 1, none⟩ = some (.slice (some ⟨ub, 0, none⟩) (z + 1) uc) := h1
    have ef : w2.drew.frozen? ⟨g, 1, none⟩ = false := f1
    clear hform hup
    have hz1 : z ≤ uc := by omega
    have hs1 : IntKind.i64.wrap (z : Int) = (z : Int) := IntWalk.i64_in _ (by omega)
    have hz0 : (0 : Int) ≤ (z : Int) := by omega
    go_wp2_with fail
    refine wp_region_seq (fun w' => w'.cell? ⟨g, 1, none⟩ = some (.slice (some ⟨ub, 0, none⟩) (z + 1) uc)) [14]
      [(0, 2), (1, 2), (2, 2), (3, 2), (4, 1), (5, 2), (6, 2), (7, 2), (8, 1), (9, 2), (10, 2), (11, 2), (12, 2), (13, 2), (14, 0)]
      (by kernel_rfl) (by kernel_rfl) (fun c a d v w h => by cases d <;> exact h) (by kernel_rfl) e1 ?_
    repeat
      first
        | refine wpSeqN_quiet (v := ?_) rfl (Or.inl ⟨rfl, ?_⟩) ?_
        | refine wpSeqN_pure (v := ?_) rfl (Or.inl ⟨rfl, ?_⟩) ?_
      rotate_left
      focus (intro w hSw; (try dsimp only at hSw); first | (go_simp; done) | (go_simp; with_reducible rfl))
      simp only [Act.put, List.setIfInBounds_toArray, List.set_cons_zero, List.set_cons_succ]
    refine wpSeqN_loud rfl (fun K hK => ?_)
    go_simp
    refine hK.out _ _ (fun h => absurd h (by decide)) ?_
    clear hK K
    try simp only [Act.put, List.setIfInBounds_toArray, List.set_cons_zero, List.set_cons_succ]
    refine wpSeqN_nil ?_
    have ho := Q2.out.uni
    rw [UE.out] at ho
    have ht := ho.take z (by rw [ints_length]; show z ≤ p.uni.length; omega)
    rw [ints_take] at ht
    have q := (Q2.out.putUni (Chg.refl _ _ _ Q2.out.dom) Q2.out.dom ht).drew
    have kk := (K2.out.trans ((Chg.setCell w2 Q2.out.dom Q2.out.rg 1 none (.slice (some ⟨ub, 0, none⟩) z uc)).mono (S' := PRole) (by simp))).drew
    have QQ := Lib.hid (And.intro q kk)
    clear ho ht q kk
    go_wp2
    go_end0
    refine ⟨rfl, R1, { u2 with uni := .slice (some ⟨ub, 0, none⟩) z uc }, ?_, QQ.out.2⟩
    rw [ED.out, if_pos hlt]
    have := QQ.out.1
    rw [show ({ p.reset with cls := p.cls.take m } : PS).uni = p.uni from rfl] at this
    rw [show p.uni.length - 1 = z from by omega]
    exact this
  · obtain ⟨db, hdb, hdb2⟩ : ∃ db, ra = some ⟨db, 0, none⟩ ∧ d.length ≤ rc := by
      obtain ⟨b, c, e, h1, h2, -⟩ := O2.out.cell (i := 0) (by rw [ints_length]; omega)
      simp only [Value.slice.injEq] at e
      rw [ints_length] at h1
      exact ⟨b, e.1, by rw [e.2.2]; exact h1⟩
    subst hdb
    have h2d : 2 ≤ d.length := by omega
    have hcd : d ∈ p.cls := by rw [← hd]; exact getD_mem (by omega)
    have HLD := Lib.hid (HWF.out.lit d hcd)
    have ED2 : Hid (p.drop = dropSt { p.reset with cls := p.cls.take m } d m 2) := by show _ = _; rw [ED.out, if_neg hlt]
    have hb2 : (2 : Int) ≤ (d.length : Int) := by omega
    have hb3 : (2 : Int) ≤ (rc : Int) := by omega
    have h2rc : 2 ≤ rc := by omega
    clear ED HU
    obtain ⟨Q, hQ⟩ : ∃ Q : PS, Q = ({ p.reset with cls := p.cls.take m } : PS) := ⟨_, rfl⟩
    rw [← hQ] at HW ED2 Q2
    have hQn : Q.n = p.n := by rw [hQ]; rfl
    have hQw : Q.wat.length = p.wat.length := by rw [hQ]; rfl
    have hpw := HWF.out.wat
    have HQ := Lib.hid hQ
    clear hQ hd hcd
    go_wp2_with fail
    go_loopg [52] 2 (fun kq v52 w' => ∃ j : Nat, v52 = .int .i64 j ∧ j + kq = 2 ∧ Hid (∃ R3 u3, Rep R3 w' g T ext u3 (dropSt Q d m j) ∧ OwnS R3 w' (2, m) 3 (.slice (some ⟨db, 0, none⟩) d.length rc) (ints d) ∧ Chg PRole R w R3 w'))
    case atStart => exact ⟨0, rfl, by omega, ⟨R1, u2, Q2.out, O2.out, K2.out⟩⟩
    case round =>
      clear Q2 O2 K2
      obtain ⟨j, rfl, hj, HR⟩ := hrel
      by_cases hj2 : j < 2
      · obtain ⟨R3, u3, r3, o3, k3⟩ := HR.out
        obtain ⟨hmem, hnd, hWl⟩ := HW.out j hj2 h2d
        have hlit := HLD.out _ (getD_mem (d := 0) (i := j) (by omega))
        obtain ⟨b', c', e', -, -, -, -, dcell, -⟩ := o3.cell (i := j) (by rw [ints_length]; omega)
        simp only [Value.slice.injEq, Option.some.injEq, Addr.mk.injEq, and_true] at e'
        obtain ⟨rfl, -, -⟩ := e'
        rw [ints_get (by omega)] at dcell
        have EJ : Hid (dropSt Q d m (j + 1) = (dropSt Q d m j).putWatch (d.getD j 0) (((dropSt Q d m j).watch (d.getD j 0)).erase (m : Int))) := rfl
        obtain ⟨en, ew⟩ := dropSt_same Q d m j
        generalize hl : d.getD j 0 = l at *
        generalize hq : dropSt Q d m j = q at *
        obtain ⟨jr, hjr⟩ : ∃ jr : Nat, (jr : Int) = p.n + l := ⟨(p.n + l).toNat, by have := hlit.2; omega⟩
        have hjrl : jr < q.wat.length := by have := hlit.2; rw [ew, hQw]; omega
        have hrow : q.watch l = q.wat.getD jr [] := by
          unfold PS.watch PS.row
          rw [en, hQn, ← hjr]; simp
        have hsum : IntKind.i64.wrap (p.n + l) = (jr : Int) := by rw [IntWalk.i64_in _ (by have := hlit.2; omega)]; omega
        obtain ⟨wb, wc, h2, wcell, wf, WE, WR⟩ := r3.atWat hjrl
        obtain ⟨rba, rwc, er, hw1, hw2, hwrow⟩ := r3.atWrow hjrl
        have h3 := r3.cells.2.2.2.1
        rw [en, hQn] at h3
        rw [← hrow] at er hw1 hwrow
        rw [er] at wcell
        have HROW := Lib.hid hrow
        generalize hWW : q.watch l = W at *
        have hWp : 0 < W.length := List.length_pos_iff.2 (fun e => by rw [e] at hmem; cases hmem)
        obtain ⟨rb, rfl, -, -, -⟩ := hwrow 0 hWp
        have RR := Lib.hid (And.intro r3 (And.intro o3 (And.intro k3 er)))
        have HWR := Lib.hid hwrow
        have HM := Lib.hid (And.intro hmem hnd)
        have HLQ := Lib.hid (And.intro hl (And.intro hq hWW))
        rw [ew, hQw] at h2 WE
        have HEW := Lib.hid (And.intro ew en)
        have e2 : wr.drew.cell? ⟨g, 2, none⟩ = some (.slice (some ⟨wb, 0, none⟩) p.wat.length wc) := h2
        have e3 : wr.drew.cell? ⟨g, 3, none⟩ = some (.int .i64 p.n) := h3
        have e4 : wr.drew.cell? ⟨wb, jr, none⟩ = some (.slice (some ⟨rb, 0, none⟩) W.length rwc) := wcell
        have hjl2 : jr < p.wat.length := by rw [← hQw, ← ew]; exact hjrl
        have hj0 : (0 : Int) ≤ (jr : Int) := by omega
        have hj1 : (jr : Int) < (p.wat.length : Int) := by omega
        have hwc : p.wat.length ≤ wc ∧ wc ≤ 9223372036854775807 := by
          obtain ⟨a9, c9, z1, z2, z3, -⟩ := r3.wat.form
          rw [WE.out] at z1
          simp only [Value.slice.injEq] at z1
          unfold maxLen at z3
          omega
        obtain ⟨hwc1, hwc2⟩ := hwc
        unfold maxLen at hw2
        have HJR := Lib.hid hjr
        clear hjr hpw hnm hn0 hvl
        clear r3 o3 k3 hmem hnd er hwrow hrow hl hq hWW ew en HR hjrl
        go_wp2_with fail
        refine wp_region_seq (fun w' => w'.cell? ⟨g, 2, none⟩ = some (.slice (some ⟨wb, 0, none⟩) p.wat.length wc) ∧ w'.cell? ⟨g, 3, none⟩ = some (.int .i64 p.n) ∧ w'.cell? ⟨wb, jr, none⟩ = some (.slice (some ⟨rb, 0, none⟩) W.length rwc)) [12]
          [(0, 2), (1, 2), (2, 2), (3, 1), (4, 2), (5, 2), (6, 2), (7, 1), (8, 2), (9, 2), (10, 2), (11, 1), (12, 0)]
          (by kernel_rfl) (by kernel_rfl) (fun c a d v w h => by cases d <;> exact h) (by kernel_rfl) ⟨e2, e3, e4⟩ ?_
        repeat
          first
            | refine wpSeqN_quiet (v := ?_) rfl (Or.inl ⟨rfl, ?_⟩) ?_
            | refine wpSeqN_pure (v := ?_) rfl (Or.inl ⟨rfl, ?_⟩) ?_
          rotate_left
          focus (intro w hSw; (try dsimp only at hSw); first | (go_simp; done) | (go_simp; with_reducible rfl))
          simp only [Act.put, List.setIfInBounds_toArray, List.set_cons_zero, List.set_cons_succ]
        refine wpSeqN_loud rfl (fun K hK => ?_)
        go_simp
        refine hK.out _ _ (fun h => absurd h (by decide)) ?_
        clear hK K
        try simp only [Act.put, List.setIfInBounds_toArray, List.set_cons_zero, List.set_cons_succ]
        refine wpSeqN_nil ?_
        obtain ⟨ko, rfl⟩ : ∃ ko : Nat, ko = gk := ⟨_, rfl⟩
        obtain ⟨wo, ewo⟩ : ∃ wo : World, wo = wr := ⟨_, rfl⟩
        go_wp2_with fail
        go_loopg [7] W.length (fun kq v7 w' => ∃ x : Int, v7 = .int .i64 x ∧ x + 1 = kq ∧ kq ≤ W.length ∧ Hid (∀ t, kq ≤ t → t < W.length → W.getD t 0 ≠ m) ∧ w' = wo.drew)
        case atStart => exact ⟨_, rfl, by omega, Nat.le_refl _, fun t h1 h2 => by omega, by rw [ewo]⟩
        case round =>
          obtain ⟨x, rfl, hx, hkl, HNF, ew⟩ := hrel
          subst ew
          rcases gk with _ | k
          · exfalso
            obtain ⟨t, ht, e⟩ := mem_getD 0 HM.out.1
            exact HNF.out t (Nat.zero_le _) ht e
          · obtain rfl : x = (k : Int) := by omega
            have hkw : k < W.length := by omega
            obtain ⟨b9, e9, kcell, -, hR5⟩ := HWR.out k hkw
            simp only [Option.some.injEq, Addr.mk.injEq, and_true] at e9
            subst e9
            have kcell2 : wo.drew.cell? ⟨rb, k, none⟩ = some (.int .i64 (W.getD k 0)) := by rw [ewo]; exact kcell
            by_cases hwk : W.getD k 0 = m
            · have bwk : (W.getD k 0 == (m : Int)) = true := by simp only [beq_iff_eq]; exact hwk
              have HWK := Lib.hid hwk
              generalize hy : W.getD k 0 = y at *
              clear hwk
              have hit : k + 1 ≤ W.length := by omega
              have hite3 : k + 1 ≤ rwc := by omega
              have hk1 : IntKind.i64.wrap ((k : Int) + 1) = ((k + 1 : Nat) : Int) := by rw [IntWalk.i64_in _ (by omega)]; omega
              have hk2' : (k : Int) + 1 ≤ (W.length : Int) := by omega
              have hk0' : (0 : Int) ≤ (k : Int) + 1 := by omega
              have hkr : k ≤ rwc := by omega
              obtain ⟨ad, hite, had⟩ : ∃ ad : Addr, (if rwc = k + 1 then some (⟨rb, 0, none⟩ : Addr) else some ⟨rb, k + 1, none⟩) = some ad ∧ (k + 1 < W.length → ad = ⟨rb, k + 1, none⟩) := by
                by_cases hcap : rwc = k + 1
                · exact ⟨⟨rb, 0, none⟩, if_pos hcap, fun h => by omega⟩
                · exact ⟨⟨rb, k + 1, none⟩, if_neg hcap, fun _ => rfl⟩
              have HAD := Lib.hid had
              clear had
              have ho := RR.out.1.drew.wrow jr (by rw [HEW.out.1, hQw]; exact hjl2)
              rw [RR.out.2.2.2, ← HROW.out] at ho
              have HO := Lib.hid (And.intro ho RR.out.1.drew.dom)
              have wfd : wr.drew.frozen? ⟨wb, jr, none⟩ = false := wf
              clear ho
              have HKW := Lib.hid hkw
              clear hx hkl hkw hit
              go_wp2_with fail
              refine wp_region_seq (fun w' => w'.cell? ⟨g, 2, none⟩ = some (.slice (some ⟨wb, 0, none⟩) p.wat.length wc) ∧ w'.cell? ⟨g, 3, none⟩ = some (.int .i64 p.n)) [19]
                [(0, 2), (1, 2), (2, 2), (3, 1), (4, 2), (5, 2), (6, 2), (7, 1), (8, 2), (9, 2), (10, 2), (11, 2), (12, 2), (13, 2), (14, 2), (15, 2), (16, 2), (17, 0), (18, 2), (19, 0)]
                (by kernel_rfl) (by kernel_rfl) (fun c a d v w h => by cases d <;> exact h) (by kernel_rfl) ⟨e2, e3⟩ ?_
              repeat
                first
                  | refine wpSeqN_quiet (v := ?_) rfl (Or.inl ⟨rfl, ?_⟩) ?_
                  | refine wpSeqN_pure (v := ?_) rfl (Or.inl ⟨rfl, ?_⟩) ?_
                rotate_left
                focus (intro w hSw; (try dsimp only at hSw); first | (go_simp; done) | (go_simp; with_reducible rfl))
                simp only [Act.put, List.setIfInBounds_toArray, List.set_cons_zero, List.set_cons_succ]
              refine wpSeqN_loud rfl (fun K hK => ?_)
              refine step_app_in Try.underlying23 info3 rfl _ _ rfl HO.out.1 HO.out.2 rfl ad (W.length - (k + 1)) (rwc - (k + 1)) (ints (W.drop (k + 1))) rfl ?_ ?_ (ints_one _) ?_ ?_
              · rw [ints_length, List.length_drop]
              · intro x' u' hx'
                by_cases hlast : k + 1 < W.length
                · rw [HAD.out hlast]
                  exact HO.out.1.drop_cells (k + 1) x' u' hx'
                · rw [List.drop_eq_nil_of_le (by omega)] at hx'
                  cases hx'
              · have := HKW.out; rw [ints_length]; omega
              intro w5 ho5 k5 hd5
              have g2 := k5.cell e2 (fun r hr => by rw [RR.out.1.rg] at hr; cases hr; simp)
              have g3 := k5.cell e3 (fun r hr => by rw [RR.out.1.rg] at hr; cases hr; simp)
              have gw := k5.cell e4 (fun r hr => by rw [WR.out] at hr; cases hr; simp)
              have gf := k5.frozen (RR.out.1.dom _ _ WR.out) wfd (fun r hr => by rw [WR.out] at hr; cases hr; simp)
              refine hK.out _ _ (fun _ => ⟨g2, g3⟩) ?_
              clear hK K
              try simp only [Act.put, List.setIfInBounds_toArray, List.set_cons_zero, List.set_cons_succ]
              have HO5 := Lib.hid (And.intro ho5 (And.intro k5 hd5))
              clear ho5 k5 hd5 e2 e3 e4 wfd
              repeat
                first
                  | refine wpSeqN_quiet (v := ?_) rfl (Or.inl ⟨rfl, ?_⟩) ?_
                  | refine wpSeqN_pure (v := ?_) rfl (Or.inl ⟨rfl, ?_⟩) ?_
                rotate_left
                focus (intro w hSw; (try dsimp only at hSw); first | (go_simp; done) | (go_simp; with_reducible rfl))
                simp only [Act.put, List.setIfInBounds_toArray, List.set_cons_zero, List.set_cons_succ]
              refine wpSeqN_loud rfl (fun K hK => ?_)
              go_simp
              refine hK.out _ _ (fun h => absurd h (by decide)) ?_
              clear hK K
              try simp only [Act.put, List.setIfInBounds_toArray, List.set_cons_zero, List.set_cons_succ]
              refine wpSeqN_nil ?_
              have HF : Hid (∃ R6 u6, Rep R6 (w5.setCell ⟨wb, jr, none⟩ (.slice (some ⟨rb, 0, none⟩) (k + (W.length - (k + 1))) rwc)) g T ext u6 (dropSt Q d m (j + 1)) ∧ OwnS R6 (w5.setCell ⟨wb, jr, none⟩ (.slice (some ⟨rb, 0, none⟩) (k + (W.length - (k + 1))) rwc)) (2, m) 3 (.slice (some ⟨db, 0, none⟩) d.length rc) (ints d) ∧ Chg PRole R w R6 (w5.setCell ⟨wb, jr, none⟩ (.slice (some ⟨rb, 0, none⟩) (k + (W.length - (k + 1))) rwc))) := by
                obtain ⟨ho5, k5, hd5⟩ := HO5.out
                have hkw := HKW.out
                have ho6 := ho5.take (k + (W.length - (k + 1))) (by rw [List.length_append, List.length_append, List.length_take, List.length_drop, ints_length, ints_length, List.length_drop]; omega)
                rw [List.take_left' (by rw [List.length_append, List.length_take, ints_length, ints_length, List.length_drop]; omega), ints_take, ints_append] at ho6
                have hjq : jr < q.wat.length := by rw [HEW.out.1, hQw]; exact hjl2
                have q6 := RR.out.1.drew.drew.putRow hjq k5 hd5 WE.out WR.out ho6
                have kS := Chg.setCell w5 hd5 (b := wb) (r := (4, 0)) (by rw [k5.old wb (RR.out.1.dom _ _ WR.out)]; exact WR.out) jr none (.slice (some ⟨rb, 0, none⟩) (k + (W.length - (k + 1))) rwc)
                have hrw : q.row l = jr := by
                  unfold PS.row
                  rw [HEW.out.2, hQn, ← HJR.out]; simp
                have q7 : ∃ u7, Rep R3 (w5.setCell ⟨wb, jr, none⟩ (.slice (some ⟨rb, 0, none⟩) (k + (W.length - (k + 1))) rwc)) g T ext u7 (dropSt Q d m (j + 1)) := by
                  rw [EJ.out, ← HWK.out, ← hy, erase_at HM.out.2 hkw]
                  simp only [PS.putWatch, hrw]
                  exact ⟨_, q6⟩
                obtain ⟨u7, q7⟩ := q7
                exact ⟨R3, u7, q7, ((RR.out.2.1.chg (S := fun _ => False) (Chg.refl _ R3 wr RR.out.1.dom).drew.drew (fun h => h)).chg k5 (by simp)).chg kS (by simp), ((RR.out.2.2.1.drew.drew.trans (k5.mono (by simp))).trans (kS.mono (by simp)))⟩
              go_wp2
              go_roundg (ko - 1)
              case measure => omega
              case rel => exact ⟨j + 1, by go_num, by omega, HF.out⟩
            · have bwk : (W.getD k 0 == (m : Int)) = false := by simp only [beq_eq_false_iff_ne]; exact hwk
              have HNF2 : Hid (∀ t, k ≤ t → t < W.length → W.getD t 0 ≠ m) := fun t h1 h2 => by
                by_cases e : t = k
                · rw [e]; exact hwk
                · exact HNF.out t (by omega) h2
              generalize hy : W.getD k 0 = y at *
              clear hwk
              go_wp2
              go_roundg k
              case measure => omega
              case rel => exact ⟨_, rfl, by omega, by omega, HNF2, by rw [ewo]⟩
      · obtain rfl : j = 2 := by omega
        obtain ⟨R3, u3, r3, o3, k3⟩ := HR.out
        have QQ := Lib.hid (And.intro r3 k3)
        clear r3 k3 o3
        go_wp2
        go_end0
        exact ⟨rfl, R3, u3, by rw [ED2.out]; exact QQ.out.1, QQ.out.2⟩
end Go.Proofs.Ytjbdiobnlmhidaa
namespace Go.Proofs.Ytjbdiobnlmhidaa
open Go Go.RowKit

def CRole : Role → Prop := fun r => 20 ≤ r.1
@[simp] theorem CRole_iff (i j : Nat) : CRole (i, j) ↔ 20 ≤ i := Iff.rfl

/-- a variable in a block of its own -/
def Box (R : Roles) (w : World) (b : Nat) (r : Role) (v : Value) (t : TypeId) : Prop := w.heap[b]? = some (.cells #[v] t (0, 0)) ∧ R b = some r

theorem Box.cell {R : Roles} {w : World} {b : Nat} {r : Role} {v : Value} {t : TypeId} (h : Box R w b r v t) : w.cell? ⟨b, 0, none⟩ = some v := by
  have := cell_of_row w b 0 #[v] t (0, 0) h.1
  simpa using this
theorem Box.free {R : Roles} {w : World} {b : Nat} {r : Role} {v : Value} {t : TypeId} (h : Box R w b r v t) : w.frozen? ⟨b, 0, none⟩ = false := by
  obtain ⟨h1, -⟩ := h
  unfold World.frozen?
  rw [h1]
  simp
theorem Box.chg {S : Role → Prop} {R R' : Roles} {w w' : World} {b : Nat} {r : Role} {v : Value} {t : TypeId} (h : Box R w b r v t) (k : Chg S R w R' w') (hr : ¬ S r) : Box R' w' b r v t := by
  have hlt := lt_of_heap h.1
  exact ⟨by rw [k.kept b hlt fun r' hr' => by rw [h.2] at hr'; cases hr'; exact hr]; exact h.1, by rw [k.old b hlt]; exact h.2⟩
theorem Box.set {R : Roles} {w : World} {b : Nat} {r : Role} {v : Value} {t : TypeId} (h : Box R w b r v t) (x : Value) : Box R (w.setCell ⟨b, 0, none⟩ x) b r x t :=
  ⟨by rw [setCell_heap_same x h.1]; rfl, h.2⟩

/-- new blocks get roles -/
theorem Chg.tags {S : Role → Prop} {R R' : Roles} {w0 w : World} (h : Chg S R w0 R w) (hd : Dom R w0) (h1 : ∀ b, b < w0.heap.size → R' b = R b) (h2 : ∀ b r, w0.heap.size ≤ b → R' b = some r → b < w.heap.size ∧ S r) : Chg S R w0 R' w ∧ Dom R' w := by
  refine ⟨⟨h.os, h.tape, h.output, h.size, h1, h.kept, fun b r hb hr => (h2 b r hb hr).2⟩, fun b r hr => ?_⟩
  by_cases e : b < w0.heap.size
  · have := h.size; omega
  · exact (h2 b r (by omega) hr).1

structure CaR (R : Roles) (w : World) (g T : Nat) (ext : List Value) (u : PV) (q : PS) (bo bp bs : Nat) (vo vs : Value) (out : List Int) (seen : List Bool) : Prop where
  rep : Rep R w g T ext u q
  ob : Box R w bo (22, 0) vo 23
  pb : Box R w bp (23, 0) (.pointer (some ⟨g, 0, none⟩)) 54
  sb : Box R w bs (24, 0) vs 36
  oo : OwnS R w (20, 0) 3 vo (ints out)
  os : OwnS R w (21, 0) 4 vs (boos seen)

section
variable {R R1 : Roles} {w w1 : World} {g T : Nat} {ext : List Value} {u : PV} {q : PS} {bo bp bs : Nat} {vo vs : Value} {out : List Int} {seen : List Bool}
theorem CaR.drew (h : CaR R w g T ext u q bo bp bs vo vs out seen) : CaR R w.drew g T ext u q bo bp bs vo vs out seen := by
  have k := (Chg.refl (fun _ => False) R w h.rep.dom).drew
  exact ⟨h.rep.drew, h.ob.chg k (fun h => h), h.pb.chg k (fun h => h), h.sb.chg k (fun h => h), h.oo.chg k (fun h => h), h.os.chg k (fun h => h)⟩
theorem CaR.alloc (h : CaR R w g T ext u q bo bp bs vo vs out seen) (o : Obj) : CaR R (w.alloc o) g T ext u q bo bp bs vo vs out seen := by
  have k := Chg.alloc (fun _ => False) w h.rep.dom o
  exact ⟨h.rep.alloc o, h.ob.chg k (fun h => h), h.pb.chg k (fun h => h), h.sb.chg k (fun h => h), h.oo.chg k (fun h => h), h.os.chg k (fun h => h)⟩
theorem CaR.put (h : CaR R w g T ext u q bo bp bs vo vs out seen) (k : Chg (· = (20, 0)) R w R1 w1) (hd : Dom R1 w1) {v' : Value} {out' : List Int} (ho : OwnS R1 w1 (20, 0) 3 v' (ints out')) :
    CaR R1 (w1.setCell ⟨bo, 0, none⟩ v') g T ext u q bo bp bs v' vs out' seen := by
  have hb := h.ob.chg k (by simp)
  have ks := Chg.setCell w1 hd hb.2 0 none v'
  exact ⟨(h.rep.chg k (fun i j hi e => by cases e; omega) hd).chg ks (fun i j hi e => by cases e; omega) (hd.setCell _ _), hb.set _, (h.pb.chg k (by simp)).chg ks (by simp), (h.sb.chg k (by simp)).chg ks (by simp), ho.chg ks (by simp), (h.os.chg k (by simp)).chg ks (by simp)⟩
theorem CaR.see (h : CaR R w g T ext u q bo bp bs vo vs out seen) {i : Nat} (hi : i < seen.length) :
    ∃ b c, vs = .slice (some ⟨b, 0, none⟩) seen.length c ∧ w.frozen? ⟨b, i, none⟩ = false ∧ w.cell? ⟨b, i, none⟩ = some (.bool (seen.getD i false)) ∧ CaR R (w.setCell ⟨b, i, none⟩ (.bool true)) g T ext u q bo bp bs vo vs out (seen.set i true) ∧ Chg CRole R w R (w.setCell ⟨b, i, none⟩ (.bool true)) := by
  obtain ⟨b, c, rfl, h1, h2, hR, hb, hcell, hfz⟩ := h.os.cell (i := i) (by simpa using hi)
  rw [boos_length] at *
  have ks := Chg.setCell w h.rep.dom hR i none (.bool true)
  refine ⟨b, c, rfl, hfz, by rw [hcell, boos_get hi], ⟨h.rep.chg ks (fun i j hi e => by cases e; omega) (h.rep.dom.setCell _ _), h.ob.chg ks (by simp), h.pb.chg ks (by simp), h.sb.chg ks (by simp), h.oo.chg ks (by simp), ?_⟩, ks.mono (by rintro r rfl; simp)⟩
  have := h.os.set (i := i) (by simpa using hi) (.bool true)
  rw [boos_set] at this
  exact this
end

def CaPost (R : Roles) (w : World) (g T : Nat) (ext : List Value) (u : PV) (q : PS) (bo bp bs : Nat) (vs : Value) (out : List Int) (seen : List Bool) (e : Ending) (w' : World) : Prop :=
  e = .returned (.tuple #[]) ∧ ∃ R' vo, CaR R' w' g T ext u q bo bp bs vo vs out seen ∧ Chg CRole R w R' w'

set_option maxRecDepth 100000 in
set_option maxHeartbeats 8000000 in
theorem mark_calls {R : Roles} {w : World} {g T : Nat} {ext : List Value} {u : PV} {q : PS} {bo bp bs : Nat} {vo vs : Value} {out : List Int} {seen : List Bool} (h : CaR R w g T ext u q bo bp bs vo vs out seen) {i : Nat} (hi : i < q.cls.length)
    (hn : q.cls.length ≤ 1000000000) (hol : out.length ≤ 1000000000) (hl : ∀ l, l ∈ q.cls.getD i [] → l.natAbs < seen.length) (hsl : seen.length ≤ 1000000000) :
    Calls Try.prog 74 #[.int .i64 i, .pointer (some ⟨bo, 0, none⟩), .pointer (some ⟨bp, 0, none⟩), .pointer (some ⟨bs, 0, none⟩)] w (CaPost R w g T ext u q bo bp bs vs (out ++ [(i : Int)]) (markL seen (q.cls.getD i []))) := by
  obtain ⟨cl, hC⟩ : ∃ cl, q.cls.getD i [] = cl := ⟨_, rfl⟩
  rw [hC] at hl ⊢
  have HC := Lib.hid hC
  clear hC
  have c1 := h.ob.cell
  have f1 := h.ob.free
  go_enter Try.func74, Try.ntmps74
  go_wp2_with (at_builtin; refine wpList_app Try.underlying23 info3 rfl rfl _ _ rfl _ _ rfl (h.alloc _).oo (h.alloc _).rep.dom _ 1 1 [.int .i64 i] rfl rfl (cell_one_new _ _ _) (by simp [Value.oneCell']) (by omega) (by simp; omega) ?_)
  rintro a4 n4 c4 w4 R4 ho k4 hd4 -
  rw [show [Value.int .i64 (i : Int)] = ints [(i : Int)] from rfl, ints_append] at ho
  have q4 := (h.alloc _).put k4 hd4 ho
  have kk := ((Chg.alloc CRole w h.rep.dom (.cells #[Value.int .i64 i] 3)).trans (k4.mono (by rintro r rfl; simp))).trans ((Chg.setCell w4 hd4 ((h.alloc _).ob.chg k4 (by simp)).2 0 none (.slice a4 n4 c4)).mono (by rintro r rfl; simp))
  have gf := ((h.alloc (.cells #[Value.int .i64 i] 3)).ob.chg k4 (by simp)).free
  have gc := ((h.alloc (.cells #[Value.int .i64 i] 3)).ob.chg k4 (by simp)).cell
  have Q := Lib.hid (And.intro q4 kk)
  clear q4 kk ho k4 hd4 c1 f1
  go_upto_region 1 with (fail)
  refine cutW (fun w1 => ∃ R1 vo, CaR R1 w1 g T ext u q bo bp bs vo vs (out ++ [(i : Int)]) seen ∧ Chg CRole R w R1 w1) ⟨_, _, Q.out.1, Q.out.2⟩ ?_
  clear Q gf gc h
  rintro w1 ⟨R1, vo1, q1, k1⟩
  have c2 := q1.pb.cell
  obtain ⟨cb, cc, h0, ccell, cf, CE, CR⟩ := q1.rep.atCls hi
  obtain ⟨ra, rc, er, hr1, hr2, hrow⟩ := q1.rep.atCrow hi
  rw [HC.out] at er hr1 hrow
  unfold maxLen at hr2
  rw [er] at ccell
  have Q1 := Lib.hid (And.intro q1 k1)
  have HE := Lib.hid er
  clear q1 k1 hrow er cf CE CR
  go_wp2_with fail
  go_loopg [19] cl.length (fun kq v19 w' => ∃ (j : Nat) (R1 : Roles) (vo1 : Value), v19 = .int .i64 j ∧ j + kq = cl.length ∧ Hid (CaR R1 w' g T ext u q bo bp bs vo1 vs (out ++ [(i : Int)]) (markL seen (cl.take j))) ∧ Hid (Chg CRole R w R1 w'))
  case atStart => exact ⟨0, R1, vo1, rfl, by omega, Q1.out.1, Q1.out.2⟩
  case round =>
    clear Q1 h0 ccell c2
    obtain ⟨j, R2, vo2, rfl, hj, Q2, K2⟩ := hrel
    by_cases hlt : j < cl.length
    · obtain ⟨ra', rc', er, -, -, hrow⟩ := Q2.out.rep.atCrow hi
      rw [HC.out] at er hrow
      have e3 := HE.out.symm.trans er
      simp only [Value.slice.injEq, true_and] at e3
      obtain ⟨rfl, rfl⟩ := e3
      obtain ⟨rb, rfl, rcell, -, -⟩ := hrow j hlt
      have hll := hl _ (getD_mem (d := 0) hlt)
      have EM : Hid (markL seen (cl.take (j + 1)) = (markL seen (cl.take j)).set (cl.getD j 0).natAbs true) := by
        show _ = _
        rw [← take_oneI hlt]
        unfold markL
        rw [List.foldl_append]; rfl
      generalize cl.getD j 0 = l at *
      have hml := markL_len (cl.take j) seen
      generalize hms : markL seen (cl.take j) = sn at *
      obtain ⟨sb', sc, rfl, sf, scell, q3, k3⟩ := Q2.out.see (i := l.natAbs) (by rw [hml]; exact hll)
      rw [hml] at *
      have c3 := Q2.out.sb.cell
      have Q3 := Lib.hid (And.intro q3 k3)
      clear q3 k3 hrow er
      go_upto_region 4 with (fail)
      go_still_tail 4, (by kernel_rfl)
      still_call (mag_still _ _ (by omega) (by omega))
      repeat still_step
      refine wpStill_nil ?_
      go_upto_region 5 with (fail)
      refine cutW (fun w1 => ∃ R1 vo, CaR R1 w1 g T ext u q bo bp bs vo (.slice (some ⟨sb', 0, none⟩) seen.length sc) (out ++ [(i : Int)]) (markL seen (cl.take (j + 1))) ∧ Chg CRole R w R1 w1) ⟨R2, vo2, by rw [EM.out]; exact Q3.out.1.drew, (K2.out.trans Q3.out.2).drew⟩ ?_
      rintro w3 ⟨R3, vo3, q3, k3⟩
      clear c3 sf rcell Q3 scell
      go_wp2
      go_roundg (gk - 1)
      case measure => omega
      case rel => exact ⟨j + 1, R3, vo3, by go_num, by omega, q3, k3⟩
    · obtain rfl : j = cl.length := by omega
      rw [List.take_length] at Q2
      go_wp2
      go_end0
      exact ⟨rfl, R2, vo2, Q2.out, K2.out⟩
end Go.Proofs.Ytjbdiobnlmhidaa
namespace Go.Proofs.Ytjbdiobnlmhidaa
open Go Go.RowKit

theorem ownsRow_repB {w : World} {b E n : Nat} {z : Value} (h : w.heap[b]? = some (.cells (repA z n) E (0, 0))) (hn : n ≤ maxLen) : w.ownsRow 0 E 1 (.slice (some ⟨b, 0, none⟩) n n) (List.replicate n z).length (List.replicate n z) := by
  rw [List.length_replicate]; exact ownsRow_rep h hn

theorem ca_start {R : Roles} {w : World} {g T : Nat} {ext : List Value} {u : PV} {q : PS} (h : Rep R w g T ext u q) {n : Nat} (hn : n ≤ 1000000000) :
    ∃ R', CaR R' ((((w.alloc (.cells #[.pointer (some ⟨g, 0, none⟩)] 54)).alloc (.cells #[.slice none 0 0] 23)).alloc (.cells (repA (.bool false) n) 4)).alloc (.cells #[.slice (some ⟨w.heap.size + 1 + 1, 0, none⟩) n n] 36)) g T ext u q (w.heap.size + 1) w.heap.size (w.heap.size + 1 + 1 + 1) (.slice none 0 0) (.slice (some ⟨w.heap.size + 1 + 1, 0, none⟩) n n) [] (List.replicate n false) ∧
      Chg CRole R w R' ((((w.alloc (.cells #[.pointer (some ⟨g, 0, none⟩)] 54)).alloc (.cells #[.slice none 0 0] 23)).alloc (.cells (repA (.bool false) n) 4)).alloc (.cells #[.slice (some ⟨w.heap.size + 1 + 1, 0, none⟩) n n] 36)) := by
  have hd := h.dom
  have k0 : Chg CRole R w R ((((w.alloc (.cells #[.pointer (some ⟨g, 0, none⟩)] 54)).alloc (.cells #[.slice none 0 0] 23)).alloc (.cells (repA (.bool false) n) 4)).alloc (.cells #[.slice (some ⟨w.heap.size + 1 + 1, 0, none⟩) n n] 36)) :=
    ((((Chg.alloc CRole w hd _).trans (Chg.alloc CRole _ (hd.alloc _) _)).trans (Chg.alloc CRole _ ((hd.alloc _).alloc _) _)).trans (Chg.alloc CRole _ (((hd.alloc _).alloc _).alloc _) _))
  generalize hs : w.heap.size = s at k0 ⊢
  generalize hW : (((w.alloc (.cells #[.pointer (some ⟨g, 0, none⟩)] 54)).alloc (.cells #[.slice none 0 0] 23)).alloc (.cells (repA (.bool false) n) 4)).alloc (.cells #[.slice (some ⟨s + 1 + 1, 0, none⟩) n n] 36) = W at *
  have e3 : W.heap[s + 1 + 1 + 1]? = some (.cells #[.slice (some ⟨s + 1 + 1, 0, none⟩) n n] 36 (0, 0)) := by
    rw [← hW]
    simp only [alloc_heap, alloc_size, hs]
    repeat (first | rw [if_pos rfl] | rw [if_pos trivial] | rw [if_neg (by omega)])
  have e0 : W.heap[s]? = some (.cells #[.pointer (some ⟨g, 0, none⟩)] 54 (0, 0)) := by
    rw [← hW]
    simp only [alloc_heap, alloc_size, hs]
    repeat (first | rw [if_pos rfl] | rw [if_pos trivial] | rw [if_neg (by omega)])
  have e1 : W.heap[s + 1]? = some (.cells #[.slice none 0 0] 23 (0, 0)) := by
    rw [← hW]
    simp only [alloc_heap, alloc_size, hs]
    repeat (first | rw [if_pos rfl] | rw [if_pos trivial] | rw [if_neg (by omega)])
  have e2 : W.heap[s + 1 + 1]? = some (.cells (repA (.bool false) n) 4 (0, 0)) := by
    rw [← hW]
    simp only [alloc_heap, alloc_size, hs]
    repeat (first | rw [if_pos rfl] | rw [if_pos trivial] | rw [if_neg (by omega)])
  obtain ⟨k1, d1⟩ := k0.tags (R' := fun b => if b = s then some (23, 0) else if b = s + 1 then some (22, 0) else if b = s + 1 + 1 then some (21, 0) else if b = s + 1 + 1 + 1 then some (24, 0) else R b) hd (fun b hb => by
    rw [hs] at hb
    simp only [show ¬ b = s from by omega, show ¬ b = s + 1 from by omega, show ¬ b = s + 1 + 1 from by omega, show ¬ b = s + 1 + 1 + 1 from by omega, if_false]) (fun b r hb hr => by
    have hz : W.heap.size = s + 1 + 1 + 1 + 1 := by rw [← hW]; simp only [alloc_size, hs]
    rw [hs] at hb
    try dsimp only at hr
    split at hr
    · cases hr; exact ⟨by omega, by simp⟩
    · split at hr
      · cases hr; exact ⟨by omega, by simp⟩
      · split at hr
        · cases hr; exact ⟨by omega, by simp⟩
        · split at hr
          · cases hr; exact ⟨by omega, by simp⟩
          · have := hd b r hr; omega)
  refine ⟨_, ⟨h.chg k1 (fun i j hi => by simp; omega) d1, ⟨e1, by simp⟩, ⟨e0, by simp⟩, ⟨e3, by show (if _ = s then _ else _) = _; rw [if_neg (by omega), if_neg (by omega), if_neg (by omega), if_pos rfl]⟩, OwnS.nil _ _ _ _, ⟨?_, fun b hb => ?_⟩⟩, k1⟩
  · have := ownsRow_repB (z := .bool false) e2 (by unfold maxLen; omega)
    simpa [boos] using this
  · simp [Value.ownBlock] at hb; subst hb; show (if _ = s then _ else _) = _; rw [if_neg (by omega), if_neg (by omega), if_pos rfl]

def l2n (l : List Bool) : Nat := l.length

def CausesPost (R : Roles) (w : World) (g T : Nat) (ext : List Value) (u : PV) (q : PS) (e : Ending) (w' : World) : Prop :=
  ∃ v R' out, e = .returned v ∧ Rep R' w' g T ext u q ∧ Chg CRole R w R' w' ∧ OwnS R' w' (20, 0) 3 v (ints out) ∧ (q.fal < 0 → out = []) ∧ ∀ i0 : Nat, q.fal = i0 → ∃ seen, CInv q i0 0 seen out

set_option maxRecDepth 100000 in
set_option maxHeartbeats 8000000 in
theorem causes_calls {R : Roles} {w : World} {g T : Nat} {ext : List Value} {u : PV} {q : PS} (h : Rep R w g T ext u q) {L : List Nat} {As : Int → Prop} {S : List (List Int)} {hp : Nat} {wt : Int → List Int} (hpi : PI L As S hp wt q) (hf : q.fal < 0 ∨ ∃ i : Nat, q.fal = i ∧ i < q.cls.length) :
    Calls Try.prog 66 #[.pointer (some ⟨g, 0, none⟩)] w (CausesPost R w g T ext u q) := by
  have hmf : ∀ (fn : Fn) (first cap : Array Value) (w : World), (Instr.makeFunc fn first cap).run Try.prog w = .ok (.func fn first cap) w := fun _ _ _ _ => rfl
  have q0 := h.alloc (.cells #[.pointer (some ⟨g, 0, none⟩)] 54)
  have h8 := q0.cells.2.2.2.2.2.2.2.2.1
  have hb0 : (w.alloc (.cells #[.pointer (some ⟨g, 0, none⟩)] 54)).cell? ⟨w.heap.size, 0, none⟩ = some (.pointer (some ⟨g, 0, none⟩)) := by
    have := cell_of_row (w.alloc (.cells #[.pointer (some ⟨g, 0, none⟩)] 54)) w.heap.size 0 #[.pointer (some ⟨g, 0, none⟩)] 54 (0, 0) (by rw [alloc_heap]; simp)
    simp
  rcases hf with hneg | ⟨i0, hi0, hil⟩
  · have HQ := Lib.hid (And.intro h (Chg.alloc CRole w h.dom (.cells #[.pointer (some ⟨g, 0, none⟩)] 54)))
    have HN := Lib.hid hneg
    clear h q0 hpi
    go_enter Try.func66, Try.ntmps66
    go_wp2
    go_ret
    refine ⟨_, R, [], rfl, HQ.out.1.alloc _, HQ.out.2, OwnS.nil _ _ _ _, fun _ => rfl, fun i0 e => ?_⟩
    have := HN.out
    omega
  · rw [hi0] at h8
    have hwf := hpi.wf
    have hnm := hwf.nmax
    have hn0 := hwf.n0
    have hcn := hwf.cnum
    obtain ⟨n, hn⟩ : ∃ n : Nat, q.n = n := ⟨q.n.toNat, by omega⟩
    have htl := hpi.tlen
    have h3 := (q0.alloc (.cells #[.slice none 0 0] 23)).cells.2.2.2.1
    rw [hn] at h3 htl hnm
    have hb1 : ((w.alloc (.cells #[.pointer (some ⟨g, 0, none⟩)] 54)).alloc (.cells #[.slice none 0 0] 23)).cell? ⟨w.heap.size, 0, none⟩ = some (.pointer (some ⟨g, 0, none⟩)) := by
      have := cell_of_row ((w.alloc (.cells #[.pointer (some ⟨g, 0, none⟩)] 54)).alloc (.cells #[.slice none 0 0] 23)) w.heap.size 0 #[.pointer (some ⟨g, 0, none⟩)] 54 (0, 0) (by simp only [alloc_heap, alloc_size]; rw [if_neg (by omega), if_pos trivial])
      simp
    have m36 := run_mk (t := 36) (E := 4) Try.underlying36 info4 rfl (by omega) ((n : Int) + 1) (n + 1) (by omega) (by omega)
    have hs3 : IntKind.i64.wrap ((n : Int) + 1) = (n : Int) + 1 := IntWalk.i64_in _ (by omega)
    obtain ⟨R0, ca0, k0⟩ := ca_start h (n := n + 1) (by omega)
    have HC := Lib.hid (And.intro ca0 k0)
    have HP := Lib.hid hpi
    have HF := Lib.hid hi0
    have HI := Lib.hid hil
    have HNN := Lib.hid hn
    clear ca0 k0 h hpi q0 hwf hi0 hn0 hn
    go_enter Try.func66, Try.ntmps66
    go_upto_region 6 with (fail)
    refine cutW (fun w1 => ∃ R1, CaR R1 w1 g T ext u q (w.heap.size + 1) w.heap.size (w.heap.size + 1 + 1 + 1) (.slice none 0 0) (.slice (some ⟨w.heap.size + 1 + 1, 0, none⟩) (n + 1) (n + 1)) [] (List.replicate (n + 1) false) ∧ Chg CRole R w R1 w1) ⟨R0, HC.out.1, HC.out.2⟩ ?_
    generalize hbo : w.heap.size + 1 = bo at *
    generalize hbs : bo + 1 + 1 = bs at *
    generalize hsv : Value.slice (some ⟨bo + 1, 0, none⟩) (n + 1) (n + 1) = vs at *
    clear h8 h3 hb0 hb1 m36 HC
    rintro w1 ⟨R1, q1, k1⟩
    have c1 := q1.pb.cell
    have c8 := q1.rep.cells.2.2.2.2.2.2.2.2.1
    rw [HF.out] at c8
    obtain ⟨ta, tc, ht, ht1, ht2, -, -⟩ := q1.rep.tra.form
    rw [ints_length] at ht ht1
    have HT := Lib.hid ht
    have HMK := Lib.hid (mark_calls q1 HI.out (by omega) (by simp) (HP.out.lits_lt (seen := List.replicate (n + 1) false) (by rw [List.length_replicate, HNN.out]; omega) HI.out) (by simp; omega))
    have Q1 := Lib.hid (And.intro q1 k1)
    clear q1 k1 ht
    go_upto_region 7 with (go_at_call 74; refine HMK.out.mono ?_; rintro e w3 ⟨rfl, R3, vo3, q3, k3⟩)
    refine cutW (fun w3 => ∃ R3 vo3, CaR R3 w3 g T ext u q bo w.heap.size bs vo3 vs [(i0 : Int)] (markL (List.replicate (n + 1) false) (q.cls.getD i0 [])) ∧ Chg CRole R w R3 w3) ⟨R3, vo3, q3, Q1.out.2.trans k3⟩ ?_
    clear HMK Q1 c1 c8 q3 k3
    rintro w4 ⟨R4, vo4, q4, k4⟩
    have c1 := q4.pb.cell
    have h6 := q4.rep.cells.2.2.2.2.2.2.1
    rw [HT.out] at h6
    have Q4 := Lib.hid (And.intro q4 k4)
    have CS := Lib.hid (CInv.start HP.out (seen := List.replicate (n + 1) false) (by rw [List.length_replicate, HNN.out]; omega) HI.out)
    clear q4 k4
    go_wp2_with fail
    go_loopg [6] q.tra.length (fun kq v6 w' => ∃ (x : Int) (R5 : Roles) (vo5 : Value) (out : List Int) (seen : List Bool), v6 = .int .i64 x ∧ x + 1 = kq ∧ kq ≤ q.tra.length ∧ Hid (CInv q i0 kq seen out) ∧ Hid (CaR R5 w' g T ext u q bo w.heap.size bs vo5 vs out seen) ∧ Hid (Chg CRole R w R5 w'))
    case atStart => exact ⟨_, R4, vo4, _, _, rfl, by omega, Nat.le_refl _, CS, Q4.out.1, Q4.out.2⟩
    case round =>
      clear Q4 CS c1 h6
      obtain ⟨x, R5, vo5, out, seen, rfl, hx, hkl, CI, Q5, K5⟩ := hrel
      rcases gk with _ | k
      · obtain rfl : x = -1 := by omega
        have c2 := Q5.out.ob.cell
        go_wp2
        go_ret
        exact ⟨_, R5, out, rfl, Q5.out.rep, K5.out, Q5.out.oo, fun hf => by have := HF.out; omega, fun i1 e => by
          have := HF.out
          obtain rfl : i1 = i0 := by omega
          exact ⟨seen, CI.out⟩⟩
      · obtain rfl : x = (k : Int) := by omega
        have hkt : k < q.tra.length := by omega
        obtain ⟨tb, tc', h6, tcell, -, -, -⟩ := Q5.out.rep.atTra hkt
        have hlit := HP.out.wf.tra _ (getD_mem (d := 0) hkt)
        have hvl := (HP.out.wf.litOk hlit).rea
        have hl2 := hlit.2
        rw [HNN.out] at hl2
        have hsl : l2n seen = n + 1 := by have := CI.out.sl; rw [HNN.out] at this; show seen.length = n + 1; omega
        have CM := Lib.hid (fun (j : Nat) => CInv.mark HP.out CI.out hkt (j := j))
        have CK := Lib.hid (CInv.skip CI.out)
        have HOL := CI.out.len
        generalize q.tra.getD k 0 = l at *
        obtain ⟨rb, rc, h5, rcell, -, -, -⟩ := Q5.out.rep.atRea hvl
        generalize q.rea.getD l.natAbs 0 = r at *
        obtain ⟨sb', sc, hvs, -, scell, -, -⟩ := Q5.out.see (i := l.natAbs) (by unfold l2n at hsl; omega)
        have hml : (l.natAbs : Int) ≤ 100000000 := by omega
        have c1 := Q5.out.pb.cell
        have c3 := Q5.out.sb.cell
        rw [hvs] at c3
        have hsl2 : seen.length = n + 1 := hsl
        rw [hsl2] at c3
        have HVS := Lib.hid hvs
        clear hvs hlit hsl
        have hln : l.natAbs < n + 1 := by omega
        by_cases hseen : seen.getD l.natAbs false = true
        · rw [hseen] at scell
          by_cases hr : 0 ≤ r
          · obtain ⟨j, rfl⟩ : ∃ j : Nat, r = j := ⟨r.toNat, by omega⟩
            have hjj := (CM.out j rfl).1
            have CN := Lib.hid (CM.out j rfl).2
            have HMK := Lib.hid (mark_calls Q5.out hjj (by have := HP.out.wf.cnum; omega) (by omega) (HP.out.lits_lt CI.out.sl hjj) (by omega))
            clear CM CK hjj
            go_wp2_with (first | (go_at_call 71; refine (magnitude_calls l _ (by omega) (by omega)).mono ?_; rintro e w' ⟨rfl, rfl⟩) | (go_at_call 74; refine HMK.out.mono ?_; rintro e w6 ⟨rfl, R6, vo6, q6, k6⟩; have Q6 := Lib.hid q6; have K6 := Lib.hid k6; clear q6 k6))
            go_roundg k
            case measure => omega
            case rel => exact ⟨_, R6, vo6, _, _, rfl, by omega, by omega, CN, Q6, K5.out.trans K6.out⟩
          · have CN := Lib.hid (CK.out (fun h => hr h.2))
            have hr' : r < 0 := by omega
            clear CM CK
            go_wp2_with (go_at_call 71; refine (magnitude_calls l _ (by omega) (by omega)).mono ?_; rintro e w' ⟨rfl, rfl⟩)
            go_roundg k
            case measure => omega
            case rel => exact ⟨_, R5, vo5, _, _, rfl, by omega, by omega, CN, Q5, K5⟩
        · have CN := Lib.hid (CK.out (fun h => hseen h.1))
          have hseen' : seen.getD l.natAbs false = false := by simpa using hseen
          rw [hseen'] at scell
          clear CM CK hseen
          go_wp2_with (go_at_call 71; refine (magnitude_calls l _ (by omega) (by omega)).mono ?_; rintro e w' ⟨rfl, rfl⟩)
          go_roundg k
          case measure => omega
          case rel => exact ⟨_, R5, vo5, _, _, rfl, by omega, by omega, CN, Q5, K5⟩
end Go.Proofs.Ytjbdiobnlmhidaa
namespace Go.Proofs.Ytjbdiobnlmhidaa
open Go Go.RowKit

theorem nodup_01 {d : List Int} (h : d.Nodup) (h2 : 2 ≤ d.length) : d.getD 0 0 ≠ d.getD 1 0 := by
  match d, h, h2 with
  | a :: b :: r, h, _ =>
    simp only [List.nodup_cons, List.mem_cons] at h
    intro e
    simp at e
    exact h.1 (.inl e)

theorem prop_drop {X : PS → Prop} {base top : Nat} {w : World} {S : List (List Int)} {c : List Int} {n g : Nat} (h : PropW X base top w (S ++ [c]) n g) :
    Calls Try.prog 65 #[.pointer (some ⟨g, 0, none⟩)] w (AddW base S n g w) := by
  obtain ⟨R, u, q, h1, h2, h3, h4, h5, h6, h7⟩ := h
  have hwf := h2.wf
  have ht := PI.tlen h2
  have hnm := hwf.nmax
  have hsl := h2.sl
  have hge := fun b r hr => (h4 b r hr).1
  rw [List.length_append, List.length_singleton] at hsl
  have hcn := hwf.cnum
  have hlast : q.cls.length - 1 < q.cls.length := by omega
  have hrow : ∀ x : Int, (x.natAbs : Int) ≤ q.n → (q.watch x).length ≤ 1000000000 := fun x _ => by
    have := PI.rowsB h2 (q.row x)
    show (q.wat.getD (q.row x) []).length ≤ _
    omega
  have hd := h2.cd (q.cls.length - 1)
  have hlit : ∀ x, x ∈ q.cls.getD (q.cls.length - 1) [] → Lit q.n x := hwf.lit _ (getD_mem hlast)
  refine (drop_calls h1 hwf (by omega) (by omega) (by have := PI.uniB h2; omega) (fun j => by have := PI.rowsB h2 j; omega) (fun hl => ?_) (fun j hj h2d => ?_)).mono ?_
  · obtain ⟨v, hv⟩ := PI.uni_last h2 (by omega) hl
    rw [hv]; simp
  · generalize hD : q.cls.getD (q.cls.length - 1) [] = d at *
    have hw : ∀ j, j < 2 → ((q.cls.length - 1 : Nat) : Int) ∈ q.watch (d.getD j 0) ∧ (q.watch (d.getD j 0)).Nodup ∧ (q.watch (d.getD j 0)).length ≤ 1000000000 := fun j hj => by
      have hl := hlit _ (getD_mem (d := 0) (i := j) (by omega))
      refine ⟨(h2.ws _ hl.2 _).2 ⟨hlast, by rw [hD]; exact h2d, ?_⟩, h2.wn _ hl.2, hrow _ hl.2⟩
      rw [hD]
      match j, hj with
      | 0, _ => exact .inl rfl
      | 1, _ => exact .inr rfl
    match j, hj with
    | 0, hj => exact hw 0 hj
    | 1, hj =>
      have e : (dropSt { q.reset with cls := q.cls.take (q.cls.length - 1) } d (q.cls.length - 1) 1).watch (d.getD 1 0) = q.watch (d.getD 1 0) := by
        show (q.reset.putWatch (d.getD 0 0) ((q.watch (d.getD 0 0)).erase ((q.cls.length - 1 : Nat) : Int))).watch (d.getD 1 0) = _
        rw [watch_putWatch _ hwf.reset (hlit _ (getD_mem (d := 0) (i := 0) (by omega))).2 (hlit _ (getD_mem (d := 0) (i := 1) (by omega))).2, if_neg (fun e => nodup_01 hd h2d e.symm)]
        rfl
      rw [e]
      exact hw 1 hj
  · rintro e w' ⟨rfl, R', u', r1, k1⟩
    exact ⟨rfl, ⟨R', u', _, r1, PI.drop h2, by rw [(drop_same q).2.1]; exact h3, fun b r hr => ⟨chg_ge k1 hge h6 b r hr, r1.dom b r hr⟩, trivial, Nat.le_trans h6 k1.size, Nat.le_refl _⟩, chg_below k1 hge h6⟩

def CauW (base : Nat) (S : List (List Int)) (A : List Int) (n g : Nat) (w : World) (e : Ending) (w' : World) : Prop :=
  ∃ v out, e = .returned v ∧ PropW (fun _ => True) base w'.heap.size w' S n g ∧ Below base w w' ∧ RdS w' (fun b => base ≤ b) v (ints out) ∧ out.length ≤ 1000000000 ∧ (∀ k, k ∈ out → ∃ j : Nat, k = j ∧ j < S.length) ∧ Conf (out.map (fun k => S.getD k.toNat [])) A

theorem prop_causes {base top : Nat} {w : World} {S : List (List Int)} {A : List Int} {n g : Nat} (h : PropW (RefOk S A) base top w S n g) (hA : ∀ x, x ∈ A → x ≠ 0) (hc : confB S A = true) :
    Calls Try.prog 66 #[.pointer (some ⟨g, 0, none⟩)] w (CauW base S A n g w) := by
  obtain ⟨R, u, q, h1, h2, h3, h4, ⟨hpi, -, hbad⟩, h6, h7⟩ := h
  have hge := fun b r hr => (h4 b r hr).1
  have ht := PI.tlen h2
  have hnm := h2.wf.nmax
  have hbad' := hbad hc
  refine (causes_calls h1 hpi (by
    rcases hbad' with ⟨hf, -⟩ | ⟨i, hf, hi, -⟩
    · exact .inl (by omega)
    · exact .inr ⟨i, hf, hi⟩)).mono ?_
  rintro e w' ⟨v, R', out, rfl, r1, k1, ho, hneg, hcin⟩
  refine ⟨v, out, rfl, ⟨R', u, q, r1, h2, h3, fun b r hr => ⟨chg_ge k1 hge h6 b r hr, r1.dom b r hr⟩, trivial, Nat.le_trans h6 k1.size, Nat.le_refl _⟩, chg_below k1 hge h6, ho.rd.mono (fun b _ hb => chg_ge k1 hge h6 b _ hb), ?_⟩
  rcases hbad' with ⟨hf, x, hx, hx'⟩ | ⟨i, hf, hi, hb⟩
  · obtain rfl := hneg (by omega)
    exact ⟨by simp, ⟨fun k hk => (by cases hk), .inl ⟨x, hA x hx, .asm hx, .asm hx'⟩⟩⟩
  · obtain ⟨seen, ci⟩ := hcin i hf
    refine ⟨by have := ci.len; omega, fun k hk => ?_, ci.conf hpi (fun l _ h => h) hb⟩
    obtain ⟨j, rfl, hj⟩ := ci.oc k hk
    exact ⟨j, rfl, by rw [← h2.sl]; exact hj⟩
end Go.Proofs.Ytjbdiobnlmhidaa
namespace Go.Proofs.Ytjbdiobnlmhidaa
open Go Go.RowKit

/-- a row of truth values in a block of its own -/
def Used (w : World) (b : Nat) (l : List Bool) : Prop := w.heap[b]? = some (.cells (boos l).toArray 4 (0, 0))

theorem Used.cell {w : World} {b : Nat} {l : List Bool} (h : Used w b l) {i : Nat} (hi : i < l.length) : w.cell? ⟨b, i, none⟩ = some (.bool (l.getD i false)) := by
  rw [cell_of_row w b i _ 4 (0, 0) h]
  simp only [List.getElem?_toArray]
  exact boos_get hi
theorem Used.free {w : World} {b : Nat} {l : List Bool} (h : Used w b l) (i : Nat) : w.frozen? ⟨b, i, none⟩ = false := by
  unfold World.frozen?
  rw [show w.heap[b]? = _ from h]
  simp
theorem Used.set {w : World} {b : Nat} {l : List Bool} (h : Used w b l) (i : Nat) (x : Bool) : Used (w.setCell ⟨b, i, none⟩ (.bool x)) b (l.set i x) := by
  unfold Used
  rw [setCell_heap_same _ h, ← boos_set]
  simp
theorem Used.below {base : Nat} {w w' : World} {b : Nat} {l : List Bool} (h : Used w b l) (k : Below base w w') (hb : b < base) : Used w' b l := by
  unfold Used
  rw [k.block b hb]; exact h

theorem OwnS.same {R : Roles} {w w' : World} {r : Role} {E : TypeId} {v : Value} {xs : List Value} (h : OwnS R w r E v xs) (hk : ∀ b r, R b = some r → w'.heap[b]? = w.heap[b]?) : OwnS R w' r E v xs :=
  ⟨ownsRow_of_block h.1 fun b hb => hk b r (h.2 b hb), h.2⟩
theorem Rep.same {R : Roles} {w w' : World} {g T : Nat} {ext : List Value} {u : PV} {p : PS} (h : Rep R w g T ext u p) (hk : ∀ b r, R b = some r → w'.heap[b]? = w.heap[b]?) (hs : w.heap.size ≤ w'.heap.size) : Rep R w' g T ext u p where
  hg := by rw [hk _ _ h.rg]; exact h.hg
  rg := h.rg
  dom b r hr := Nat.lt_of_lt_of_le (h.dom b r hr) hs
  cls := h.cls.same hk
  uni := h.uni.same hk
  wat := h.wat.same hk
  val := h.val.same hk
  rea := h.rea.same hk
  tra := h.tra.same hk
  clen := h.clen
  crow i hi := (h.crow i hi).same hk
  wlen := h.wlen
  wrow i hi := (h.wrow i hi).same hk

/-- a store into a block that is not the propagator's -/
theorem PropW.store {X : PS → Prop} {base top : Nat} {w : World} {S : List (List Int)} {n g : Nat} (h : PropW X base top w S n g) {b : Nat} (hb : b < base) (i : Nat) (x : Value) : PropW X base top (w.setCell ⟨b, i, none⟩ x) S n g := by
  obtain ⟨R, u, q, h1, h2, h3, h4, h5, h6, h7⟩ := h
  exact ⟨R, u, q, h1.same (fun b' r hr => setCell_heap_other _ (by have := h4 b' r hr; omega)) (by rw [setCell_size]; exact Nat.le_refl _), h2, h3, h4, h5, by rw [setCell_size]; exact h6, by rw [setCell_size]; exact h7⟩
theorem RdS.store {w : World} {base : Nat} {v : Value} {xs : List Value} (h : RdS w (fun b => base ≤ b) v xs) {b : Nat} (hb : b < base) (i : Nat) (x : Value) : RdS (w.setCell ⟨b, i, none⟩ x) (fun b => base ≤ b) v xs :=
  h.kept (by rw [setCell_size]; exact Nat.le_refl _) fun b' _ hB => ⟨hB, setCell_heap_other _ (by omega)⟩

theorem used_new (w : World) (n : Nat) : Used (w.alloc (.cells (repA (.bool false) n) 4)) w.heap.size (List.replicate n false) := by
  show _ = _
  rw [alloc_heap, if_pos rfl]
  simp [repA, boos]

theorem OSS.weaken {base base' : Nat} {w : World} {v : Value} {ll : List (List Int)} (h : OSS base w v ll) (hb : base' ≤ base) : OSS base' w v ll := by
  obtain ⟨vs, ⟨h0, h1⟩, h2, h3⟩ := h
  refine ⟨vs, ⟨h0, ?_⟩, h2, h3⟩
  rcases h1 with h1 | ⟨g, cap, cur, e, hg, h4⟩
  · exact .inl h1
  · exact .inr ⟨g, cap, cur, e, Nat.le_trans hb hg, h4⟩
theorem Used.lt {w : World} {b : Nat} {l : List Bool} (h : Used w b l) : b < w.heap.size := lt_of_heap h
theorem neg_nz {n : Nat} {c : List Int} (h : Lits n c) : ∀ x, x ∈ neg c → x ≠ 0 := fun x hx => (neg_lits h x hx).1

/-- the call ends with clauses of P, in their order, that are a proof -/
def NeedW (S P : List (List Int)) (w : World) (e : Ending) (w' : World) : Prop := ∃ Q, NewSS w Q e w' ∧ provesB S Q = true ∧ Q.Sublist P

theorem useL_step {base : Nat} {used : List Bool} {out : List Int} {j : Nat} (hj : j < out.length) : useL base used (out.take (j + 1)) = if (base : Int) ≤ out.getD j 0 then (useL base used (out.take j)).set (out.getD j 0 - base).toNat true else useL base used (out.take j) := by
  rw [← take_oneI hj]
  unfold useL
  rw [List.foldl_append]; rfl

theorem rupAll_at {S P : List (List Int)} (h : rupAll S P = true) {k : Nat} (hk : k < P.length) : confB (S ++ P.take k) (neg (P.getD k [])) = true := by
  have e : P = P.take k ++ P.getD k [] :: P.drop (k + 1) := by rw [← drop_cons [] hk, List.take_append_drop]
  rw [e, rupAll_app, Bool.and_eq_true] at h
  have := h.2
  simp only [rupAll, Bool.and_eq_true] at this
  exact this.1

set_option maxRecDepth 100000 in
set_option maxHeartbeats 16000000 in
theorem Needed_calls {w : World} {B B2 : Nat → Prop} {v v2 : Value} {S P : List (List Int)} (h : RdSS w B v S) (h2 : RdSS w B2 v2 P) (n : Nat) (hn : n ≤ 100000000) (hS : LitsL n S) (hP : LitsL n P) (hSl : S.length ≤ 10000000) (hPl : P.length ≤ 10000000) (hl : ∀ c, c ∈ S → c.length ≤ 100000000) (hl2 : ∀ c, c ∈ P → c.length ≤ 100000000) (hpr : provesB S P = true) :
    Calls Try.prog 47 #[.int .i64 n, v, v2] w (NeedW S P w) := by
  obtain ⟨a1, c1, rfl, h1, hc1⟩ := h.form
  obtain ⟨a2, c2, rfl, h1', hc2⟩ := h2.form
  unfold maxLen at hc1 hc2
  have hpr' := hpr
  unfold provesB lastB at hpr'
  simp only [Bool.and_eq_true, decide_eq_true_eq] at hpr'
  obtain ⟨⟨hp0, hlast⟩, hra⟩ := hpr'
  have hpp : 0 < P.length := by omega
  have H := Lib.hid h.lt
  have H2 := Lib.hid h2.lt
  have HS := Lib.hid hS
  have HP := Lib.hid hP
  have HL := Lib.hid hl
  have HL2 := Lib.hid hl2
  have HRA := Lib.hid hra
  have HPB := Lib.hid (show lastB P = true by unfold lastB; simp only [Bool.and_eq_true, decide_eq_true_eq]; exact ⟨hp0, hlast⟩)
  have m36 := run_mk (t := 36) (E := 4) Try.underlying36 info4 rfl (by omega) (P.length : Int) P.length rfl (by omega)
  have hs1 : IntKind.i64.wrap ((P.length : Int) - 1) = ((P.length - 1 : Nat) : Int) := by rw [IntWalk.i64_in _ (by omega)]; omega
  have en : ((P.length : Int) - 1).toNat = P.length - 1 := by omega
  have NI : Hid (NInv S P ((List.replicate P.length false).set (P.length - 1) true) P.length) := ⟨by simp, by rw [getD_set, if_pos ⟨rfl, by simp; omega⟩], fun j h1 h2 => by omega⟩
  clear hl hl2 hS hP h2 h hra hpr hlast hp0
  go_enter Try.func47, Try.ntmps47
  go_upto_region 2 with (fail)
  obtain ⟨us, hus⟩ : ∃ us, w.heap.size = us := ⟨_, rfl⟩
  rw [hus] at H H2 ⊢
  refine cutW (fun w1 => Used w1 us (List.replicate P.length false) ∧ Below us w w1 ∧ w1.heap.size = us + 1) ?_ ?_
  · rw [← hus]
    exact ⟨used_new _ _, (Below.refl _ _).alloc (Nat.le_refl _) _, by rw [alloc_size]⟩
  clear m36
  rintro w0 ⟨u0, b0, hz0⟩
  have uc := u0.cell (i := P.length - 1) (by simp; omega)
  have uf := u0.free (P.length - 1)
  have HU0 := Lib.hid (And.intro u0 b0)
  clear u0 b0
  go_upto_region 3 with (fail)
  refine cutW (fun w1 => Used w1 us ((List.replicate P.length false).set (P.length - 1) true) ∧ Below us w w1 ∧ w1.heap.size = us + 1) ⟨HU0.out.1.set _ _, HU0.out.2.setCell (Nat.le_refl _) _, by rw [setCell_size]; exact hz0⟩ ?_
  clear hs1 en HU0 uc uf hz0
  rintro w1 ⟨u1, b1, hz1⟩
  have HN := Lib.hid (newprop_W n hn w1)
  have HU := Lib.hid (And.intro u1 b1)
  clear u1 b1
  go_wp2_with (go_at_call 52; refine HN.out.mono ?_; rintro e w2 ⟨g, rfl, q1, b1⟩; have HPR := Lib.hid q1; have HB := Lib.hid b1; clear q1 b1 HN)
  go_loopg [31] S.length (fun kq v31 w' => ∃ k : Nat, v31 = .int .i64 k ∧ k + kq = S.length ∧ Hid (PropW (fun _ => True) w1.heap.size w'.heap.size w' (S.take k) n g) ∧ Hid (Below w1.heap.size w1 w'))
  case atStart => exact ⟨0, rfl, by omega, HPR.out, HB.out⟩
  case round =>
    clear HPR HB
    obtain ⟨k, rfl, hk, HPR, HB⟩ := hrel
    by_cases hlt : k < S.length
    · obtain ⟨b', o', a', c', rfl, kcell', hr, hl1, hl2⟩ := (H.out.belowB (HU.out.2.trans (HB.out.mono (by omega)))).at hlt
      have hm := getD_mem (d := ([] : List Int)) hlt
      have HC := Lib.hid (prop_add HPR.out hr (HS.out _ hm) (HL.out _ hm) (by simp; omega))
      rw [take_one hlt] at HC
      generalize S.getD k [] = x at *
      unfold maxLen at hl2
      clear hr hm HPR
      go_wp2_with (go_at_call 45; refine HC.out.mono ?_; rintro e w5 ⟨rfl, q5, b5⟩; have HP5 := Lib.hid q5; have HB5 := Lib.hid (HB.out.trans b5); clear q5 b5 HC HB)
      go_roundg (gk - 1)
      case measure => omega
      case rel => exact ⟨k + 1, by go_num, by omega, HP5, HB5⟩
    · obtain rfl : k = S.length := by omega
      have HPS : Hid (PropW (fun _ => True) w1.heap.size wr.heap.size wr (S ++ P.take 0) n g) := by have := HPR.out; rw [List.take_length] at this; show PropW _ _ _ _ _ _ _; simpa using this
      clear HPR
      obtain ⟨wo, ewo⟩ : ∃ wo : World, wo = wr := ⟨_, rfl⟩
      go_wp2_with fail
      go_loopg [41] P.length (fun kq v41 w' => ∃ k : Nat, v41 = .int .i64 k ∧ k + kq = P.length ∧ Hid (PropW (fun _ => True) w1.heap.size w'.heap.size w' (S ++ P.take k) n g) ∧ Hid (Below w1.heap.size w1 w'))
      case atStart => exact ⟨0, rfl, by omega, HPS.out, HB.out⟩
      case round =>
        clear HPS HB ewo
        obtain ⟨k, rfl, hk, HPR, HB⟩ := hrel
        by_cases hlt : k < P.length
        · obtain ⟨b5, o5, a5, c5, ee, kcell5, hr, hl1, hl2⟩ := (H2.out.belowB (HU.out.2.trans (HB.out.mono (by omega)))).at hlt
          cases ee
          have hm := getD_mem (d := ([] : List Int)) hlt
          have HC := Lib.hid (prop_add HPR.out hr (HP.out _ hm) (HL2.out _ hm) (by simp; omega))
          rw [List.append_assoc, take_one hlt] at HC
          generalize P.getD k [] = x at *
          unfold maxLen at hl2
          clear hr hm HPR
          go_wp2_with (go_at_call 45; refine HC.out.mono ?_; rintro e w5 ⟨rfl, q5, b5⟩; have HP5 := Lib.hid q5; have HB5 := Lib.hid (HB.out.trans b5); clear q5 b5 HC HB)
          go_roundg (gk - 1)
          case measure => omega
          case rel => exact ⟨k + 1, by go_num, by omega, HP5, HB5⟩
        · obtain rfl : k = P.length := by omega
          have HUB : Hid (Used wr us ((List.replicate P.length false).set (P.length - 1) true) ∧ Below us w wr) := ⟨HU.out.1.below HB.out (by omega), HU.out.2.trans (HB.out.mono (by omega))⟩
          clear HU HB
          generalize (List.replicate P.length false).set (P.length - 1) true = used0 at *
          obtain ⟨wo2, ewo2⟩ : ∃ wo2 : World, wo2 = wr := ⟨_, rfl⟩
          generalize hbase : w1.heap.size = base at *
          go_wp2_with fail
          go_loopg [13] P.length (fun kq v13 w' => ∃ (x : Int) (used : List Bool), v13 = .int .i64 x ∧ x + 1 = kq ∧ kq ≤ P.length ∧ Hid (PropW (fun _ => True) base w'.heap.size w' (S ++ P.take kq) n g) ∧ Hid (NInv S P used kq) ∧ Hid (Used w' us used ∧ Below us w w'))
          case atStart => exact ⟨_, used0, rfl, by omega, Nat.le_refl _, HPR.out, NI, HUB⟩
          case round =>
            clear HUB HPR NI ewo2
            obtain ⟨x, used, rfl, hx, hkl, HPR, NI, HUB⟩ := hrel
            rcases gk with _ | k
            · obtain rfl : x = -1 := by omega
              have hul := NI.out.len
              obtain ⟨w0', ew0⟩ : ∃ w0' : World, w0' = wr := ⟨_, rfl⟩
              have HW0 : Hid (Used w0' us used ∧ Below us w w0') := by rw [ew0]; exact HUB
              have HS0 : Hid (Below w0'.heap.size w0' wr) := by rw [ew0]; exact Below.refl _ _
              have hus0 : us < w0'.heap.size := HW0.out.1.lt
              have HON : Hid (OSS w0'.heap.size wr (.slice none (pickL P used 0).length 0) (pickL P used 0)) := OSS.nil _ _
              clear HUB HPR ew0
              go_wp2_with fail
              go_loopg [16, 90] P.length (fun kq v16 v90 w' => ∃ (k : Nat) (oa : Option Addr) (oc : Nat), v90 = .int .i64 k ∧ k + kq = P.length ∧ v16 = .slice oa (pickL P used k).length oc ∧ Hid (OSS w0'.heap.size w' (.slice oa (pickL P used k).length oc) (pickL P used k)) ∧ Hid (Below w0'.heap.size w0' w'))
              case atStart => exact ⟨0, none, 0, rfl, by omega, rfl, HON, HS0⟩
              case round =>
                clear HS0 HON
                obtain ⟨k, oa, oc, rfl, hk, rfl, HO, HB⟩ := hrel
                by_cases hlt : k < P.length
                · have HBW : Hid (Below us w wr) := HW0.out.2.trans (HB.out.mono (Nat.le_of_lt hus0))
                  have ucell := (HW0.out.1.below HB.out hus0).cell (i := k) (by omega)
                  obtain ⟨b5', o5, a5, c5, ee, kcell5, hr, hl1, hl2⟩ := (H2.out.belowB HBW.out).at hlt
                  cases ee
                  have EP := Lib.hid (pickL_step P used k)
                  have hpl := pickL_len P used k
                  generalize P.getD k [] = x at *
                  by_cases hu : used.getD k false = true
                  · rw [hu] at ucell
                    have EP2 : Hid (pickL P used (k + 1) = pickL P used k ++ [x]) := by show _ = _; rw [EP.out, if_pos hu]
                    have K := Lib.hid (rowstep HO.out HB.out (hr.mono (fun b _ hb => Nat.lt_trans hb hus0)))
                    unfold maxLen at hl2
                    clear EP hu hr HO HB
                    generalize pickL P used k = ll at *
                    go_wp2_with (at_builtin; refine wpList_pushes (w0 := w0') rfl _ _ rfl _ _ rfl K.out.1 K.out.2.1 _ [x] rfl (RdS.one_new _ _ _) K.out.2.2 (by simp; omega) ?_)
                    rintro a7 n7 c7 w7 ho7 hb7 - hn7
                    have hn8 : n7 = (pickL P used (k + 1)).length := by rw [EP2.out, List.length_append]; exact hn7
                    subst hn8
                    rw [← EP2.out] at ho7
                    have HO7 := Lib.hid ho7
                    have HB7 := Lib.hid hb7
                    clear ho7 hb7 hn7 K
                    go_wp2
                    go_roundg (gk - 1)
                    case measure => omega
                    case rel => exact ⟨k + 1, a7, c7, by go_num, by omega, rfl, HO7, HB7⟩
                  · have hu' : used.getD k false = false := by simpa using hu
                    rw [hu'] at ucell
                    have EP2 : Hid (pickL P used (k + 1) = pickL P used k) := by show _ = _; rw [EP.out, if_neg hu]
                    have HO7 : Hid (OSS w0'.heap.size wr (.slice oa (pickL P used (k + 1)).length oc) (pickL P used (k + 1))) := by show OSS _ _ _ _; rw [EP2.out]; exact HO.out
                    clear EP hu hu' hr HO
                    go_wp2
                    go_roundg (gk - 1)
                    case measure => omega
                    case rel => exact ⟨k + 1, oa, oc, by go_num, by omega, by rw [EP2.out], HO7, HB⟩
                · obtain rfl : k = P.length := by omega
                  go_wp2
                  go_ret
                  obtain ⟨f1, f2⟩ := NI.out.proof HPB.out
                  exact ⟨_, ⟨_, _, _, rfl, by rw [hus]; exact HO.out.weaken (Nat.le_of_lt hus0), by rw [hus]; exact HW0.out.2.trans (HB.out.mono (Nat.le_of_lt hus0))⟩, f1, f2⟩
            · obtain rfl : x = (k : Int) := by omega
              have hlt : k < P.length := by omega
              have HD : Hid (PropW (fun _ => True) base wr.heap.size wr ((S ++ P.take k) ++ [P.getD k []]) n g) := by have := HPR.out; rw [← take_one hlt, ← List.append_assoc] at this; exact this
              have HDR := Lib.hid (prop_drop HD.out)
              have hul := NI.out.len
              have ucell := HUB.out.1.cell (i := k) (by omega)
              obtain ⟨b5', o5, a5, c5, ee, kcell5, hr, hl1, hl2⟩ := (H2.out.belowB HUB.out.2).at hlt
              cases ee
              have hb5 : b5' < us := by
                have h9 := H2.out
                obtain ⟨vs, r1, r2⟩ := h9.rows
                rcases r1 with ⟨-, e⟩ | ⟨b9, o9, c9, e, -, -, hB, -⟩
                · have e0 := r2.1
                  rw [e] at e0
                  have e1 : P.length = 0 := by simpa using e0.symm
                  omega
                · simp only [Value.slice.injEq, Option.some.injEq, Addr.mk.injEq, and_true] at e
                  have e1 := e.1.1
                  rw [e1]; exact hB
              have hm := getD_mem (d := ([] : List Int)) hlt
              have HCF := Lib.hid (rupAll_at HRA.out hlt)
              have HX := Lib.hid (HP.out _ hm)
              have hxl := HL2.out _ hm
              have NST := Lib.hid (fun (hu : used.getD k false = true) (out : List Int) => NInv.step NI.out hlt (out := out))
              have NSK := Lib.hid (NInv.skip NI.out)
              have HR := Lib.hid hr
              have husb : us < base := by omega
              generalize P.getD k [] = x at *
              clear HPR HD hm hr
              unfold maxLen at hl2
              by_cases hu : used.getD k false = true
              · rw [hu] at ucell
                have NS := Lib.hid (NST.out hu)
                clear NST NSK hu
                go_wp2_with (first | (go_at_call 65; refine HDR.out.mono ?_; rintro e w5 ⟨rfl, q5, b5⟩; have HP5 := Lib.hid q5; have HB5 : Hid (Used w5 us used ∧ Below us w w5) := ⟨HUB.out.1.below b5 husb, HUB.out.2.trans (b5.mono (by omega))⟩; have uc5 : w5.cell? ⟨us, k, none⟩ = some (.bool true) := (b5.cell (p := ⟨us, k, none⟩) husb).trans ucell; have kc5 := (b5.cell (p := ⟨b5', o5 + k, none⟩) (show b5' < base by omega)).trans kcell5; have HNG := Lib.hid (negated_calls (HR.out.belowB (b5.mono (B' := us) (by omega))) (by omega) (neg_ok HX.out hn)); clear b5 q5 HDR HUB HR ucell kcell5) | (go_at_call 39; refine HNG.out.mono ?_; rintro e w6 ⟨na, nn, nc, rfl, n6, b6⟩; have HRF := Lib.hid (prop_refutes (HP5.out.below b6) (A := neg x) ((RdS.of_row n6).mono fun _ _ hb => .inr hb) (neg_lits HX.out) (by simp [neg]; omega)); have HB6 : Hid (Used w6 us used ∧ Below us w w6) := ⟨HB5.out.1.below b6 (HB5.out.1.lt), HB5.out.2.trans (b6.mono (B' := us) (Nat.le_of_lt HB5.out.1.lt))⟩; clear n6 b6 HNG HP5 HB5 uc5 kc5) | (go_at_call 36; refine HRF.out.mono ?_; rintro e w7 ⟨rfl, q7, b7⟩; have HCA := Lib.hid (prop_causes q7 (neg_nz HX.out) HCF.out); have HB7 : Hid (Used w7 us used ∧ Below us w w7) := ⟨HB6.out.1.below b7 husb, HB6.out.2.trans (b7.mono (by omega))⟩; clear q7 b7 HRF HB6) | (go_at_call 66; refine HCA.out.mono ?_; rintro e w8 ⟨cv, out, rfl, q8, b8, ho8, hol, hoc, hconf⟩; have HP8 := Lib.hid q8; have HB8 : Hid (Used w8 us used ∧ Below us w w8) := ⟨HB7.out.1.below b8 husb, HB7.out.2.trans (b8.mono (by omega))⟩; have HO8 := Lib.hid ho8; have HOC := Lib.hid hoc; have HCO := Lib.hid hconf; obtain ⟨ca, cc, hcv, hcc1, hcc2⟩ := ho8.form; rw [ints_length] at hcv hcc1; subst hcv; unfold maxLen at hcc2; clear q8 b8 ho8 hoc hconf HCA HB7))
                go_wp2_with fail
                go_loopg [73] out.length (fun kq v73 w' => ∃ j : Nat, v73 = .int .i64 j ∧ j + kq = out.length ∧ Hid (PropW (fun _ => True) base w'.heap.size w' (S ++ P.take k) n g) ∧ Hid (RdS w' (fun b => base ≤ b) (.slice ca out.length cc) (ints out)) ∧ Hid (Used w' us (useL S.length used (out.take j)) ∧ Below us w w'))
                case atStart => exact ⟨0, rfl, by omega, HP8, HO8, HB8⟩
                case round =>
                  clear HP8 HO8 HB8
                  obtain ⟨j, rfl, hj, HP8, HO8, HB8⟩ := hrel
                  by_cases hjl : j < out.length
                  · obtain ⟨b9, o9, rfl, kcell9, -, -⟩ := HO8.out.at hjl
                    obtain ⟨jj, hjj, hjb⟩ := HOC.out _ (getD_mem (d := 0) hjl)
                    have hjb2 : jj < S.length + k := by rw [List.length_append, List.length_take] at hjb; omega
                    clear hjb
                    have EU := Lib.hid (useL_step (base := S.length) (used := used) hjl)
                    rw [hjj] at kcell9 EU
                    have hun := useL_len S.length (out.take j) used
                    by_cases hbb : S.length ≤ jj
                    · have EU2 : Hid (useL S.length used (out.take (j + 1)) = (useL S.length used (out.take j)).set (jj - S.length) true) := by
                        show _ = _
                        rw [EU.out, if_pos (by omega)]
                        congr 1; omega
                      generalize useL S.length used (out.take j) = uj at *
                      have uc := HB8.out.1.cell (i := jj - S.length) (by omega)
                      have uf := HB8.out.1.free (jj - S.length)
                      have hsb : IntKind.i64.wrap ((jj : Int) - (S.length : Int)) = ((jj - S.length : Nat) : Int) := by rw [IntWalk.i64_in _ (by omega)]; omega
                      have HP9 : Hid (PropW (fun _ => True) base (wr.setCell ⟨us, jj - S.length, none⟩ (.bool true)).heap.size (wr.setCell ⟨us, jj - S.length, none⟩ (.bool true)) (S ++ P.take k) n g) := by rw [setCell_size]; exact HP8.out.store husb _ _
                      have HO9 := Lib.hid (HO8.out.store husb (jj - S.length) (.bool true))
                      have HB9 : Hid (Used (wr.setCell ⟨us, jj - S.length, none⟩ (.bool true)) us (useL S.length used (out.take (j + 1))) ∧ Below us w (wr.setCell ⟨us, jj - S.length, none⟩ (.bool true))) := ⟨by rw [EU2.out]; exact HB8.out.1.set _ _, HB8.out.2.setCell (Nat.le_refl _) _⟩
                      have hge : ((jj : Int) ≥ (S.length : Int)) := by omega
                      clear HP8 HO8 HB8 EU EU2 hjj
                      go_wp2
                      go_roundg (gk - 1)
                      case measure => omega
                      case rel => exact ⟨j + 1, by go_num, by omega, HP9, HO9, HB9⟩
                    · have EU2 : Hid (useL S.length used (out.take (j + 1)) = useL S.length used (out.take j)) := by
                        show _ = _
                        rw [EU.out, if_neg (by omega)]
                      have HB9 : Hid (Used wr us (useL S.length used (out.take (j + 1))) ∧ Below us w wr) := by show _ ∧ _; rw [EU2.out]; exact HB8.out
                      clear EU EU2 hjj HB8
                      go_wp2
                      go_roundg (gk - 1)
                      case measure => omega
                      case rel => exact ⟨j + 1, by go_num, by omega, HP8, HO8, HB9⟩
                  · obtain rfl : j = out.length := by omega
                    have NK := Lib.hid (NS.out out (fun k' hk' => by
                      obtain ⟨j, e1, e2⟩ := HOC.out k' hk'
                      exact ⟨j, e1, by rw [List.length_append, List.length_take] at e2; omega⟩) HCO.out)
                    have HBT : Hid (Used wr us (useL S.length used out) ∧ Below us w wr) := by have := HB8.out; rw [List.take_length] at this; exact this
                    go_wp2
                    go_roundg k
                    case measure => omega
                    case rel => exact ⟨_, useL S.length used out, rfl, by omega, by omega, HP8, NK, HBT⟩
              · have hu' : used.getD k false = false := by simpa using hu
                rw [hu'] at ucell
                have NK := Lib.hid (NSK.out hu')
                clear hu hu' NST NSK
                have HUU := HUB
                go_wp2_with (go_at_call 65; refine HDR.out.mono ?_; rintro e w5 ⟨rfl, q5, b5⟩; have HP5 := Lib.hid q5; have HB5 : Hid (Used w5 us used ∧ Below us w w5) := ⟨HUB.out.1.below b5 husb, HUB.out.2.trans (b5.mono (by omega))⟩; have uc5 : w5.cell? ⟨us, k, none⟩ = some (.bool false) := (b5.cell (p := ⟨us, k, none⟩) husb).trans ucell; clear b5 q5 HDR)
                go_roundg k
                case measure => omega
                case rel => exact ⟨_, used, rfl, by omega, by omega, HP5, NK, HB5⟩
end Go.Proofs.Ytjbdiobnlmhidaa
namespace Go.Proofs.Ytjbdiobnlmhidaa
open Go Go.RowKit

theorem step_pushes {ops : Array Oper} {o : Oper} {a : Act} {K : Act → World → Prop} {Q : Exit → Act → World → Prop} {X : Prop} {w0 w : World} (hgd : o.guard = none) (s x : Operand) (ho : o.op = .call { callee := .builtin .append, args := #[s, x], argTypes := #[22, 22] })
    (v : Value) (ll : List (List Int)) (hs : a.eval s = v) (hown : OSS w0.heap.size w v ll) (hbel : Below w0.heap.size w0 w) {B : Nat → Prop} {y : Value} (ms : List Value) (ml : List (List Int)) (hx : a.eval x = y) (hy : RdS w B y ms)
    (hr : RowsAt w (fun b => v.ownBlock ≠ some b) ms ml) (hn : ll.length + ml.length ≤ 1000000000000)
    (h : ∀ (a' : Option Addr) (n' c' : Nat) w', OSS w0.heap.size w' (.slice a' n' c') (ll ++ ml) → Below w0.heap.size w0 w' → w.grownBy w' v.ownBlock → n' = ll.length + ml.length → K (a.put o.dst (.slice a' n' c')) w') :
    if Region.wanted o (yielded ops a.tmps) = true then Oper.wp Try.prog o a w K Q else X := by
  rw [if_pos (by simp [Region.wanted, hgd])]
  obtain ⟨vs, h1, h2⟩ := hown
  have hone := hr.one_cell
  have hrl := hr.1
  rcases hy.app with ⟨rfl, rfl⟩ | ⟨ad, c, rfl, hcell⟩
  · obtain ⟨i, hi, hz0, hz1, hz2⟩ := info_parts info23
    have hrun := run_append_owned_none (P := Try.prog) w w0.heap.size 22 o.type 23 i 1 Try.underlying22 hi v vs.length vs h1
    obtain ⟨a', n', c', rfl, hn'⟩ : ∃ a' n' c', v = .slice a' n' c' ∧ n' = vs.length := by
      rcases h1.2 with ⟨rfl, e⟩ | ⟨g, cap, cur, rfl, _⟩
      · exact ⟨none, 0, 0, rfl, e.symm⟩
      · exact ⟨_, _, _, rfl, rfl⟩
    have : ml = [] := by simpa using hrl.symm
    subst this
    unfold Oper.wp
    simp only [execOp, ho, resolve, invoke, builtin, Sem.run_bind, Sem.run_pure, Result.andThen_ok, List.map_toArray, List.map_cons, List.map_nil, hs, hx, hrun]
    exact h a' n' c' w (by rw [List.append_nil]; exact ⟨vs, h1, h2⟩) hbel (World.grownBy.refl _ _) (by simp; omega)
  · obtain ⟨i, hi, hz0, hz1, hz2⟩ := info_parts info23
    have hbytes : (vs.length + ms.length) * 24 ≤ 140737488355328 := by omega
    obtain ⟨v', w', hrun, g2, g3, g4, g5⟩ := run_append_own_at (P := Try.prog) w w0.heap.size 22 o.type 23 i (.slice none 0 0) 1 24 Try.underlying22 hi hz0 hz1 hz2 rfl (by decide) v vs.length vs h1 ad ms.length c ms (by omega) hcell hone (by unfold maxLen; omega) hbytes hbel.size
    have g2' : w'.ownsRow w0.heap.size 23 1 v' (vs ++ ms).length (vs ++ ms) := by rw [List.length_append]; exact g2
    obtain ⟨a', c', rfl⟩ : ∃ a' c', v' = .slice a' (vs.length + ms.length) c' := by
      rcases g2.2 with ⟨rfl, e⟩ | ⟨g, cap, cur, rfl, _⟩
      · exact ⟨none, 0, by rw [e]⟩
      · exact ⟨_, _, rfl⟩
    unfold Oper.wp execOp
    simp only [ho, resolve, invoke, builtin, Sem.run_bind, Sem.run_pure, Result.andThen_ok, List.map_toArray, List.map_cons, List.map_nil, hs, hx, hrun]
    exact h a' _ c' w' (OSS.apps h2 hr g2' g3 g5) (hbel.grown g3 hbel.size fun k hk => (World.ownsRow.lt h1 k hk).1) g3 (by rw [h2.1, hrl])

theorem RdS.front {w : World} {B : Nat → Prop} {a : Option Addr} {n c : Nat} {xs : List Value} (h : RdS w B (.slice a n c) xs) {k : Nat} (hk : k ≤ xs.length) : RdS w B (.slice a k c) (xs.take k) := by
  rcases h with ⟨⟨a0, e⟩, rfl⟩ | ⟨b, o, c', e, h1, h2, h3, h4, h5⟩
  · cases e
    obtain rfl : k = 0 := by simpa using hk
    exact .inl ⟨⟨_, rfl⟩, rfl⟩
  · cases e
    exact .inr ⟨b, o, c, by rw [List.length_take, Nat.min_eq_left hk], by rw [List.length_take]; omega, h2, h3, h4, fun i hi => by
      rw [List.length_take] at hi
      rw [h5 i (by omega), List.getElem?_take, if_pos (by omega)]⟩
theorem RdS.back {w : World} {B : Nat → Prop} {b o n c : Nat} {xs : List Value} (h : RdS w B (.slice (some ⟨b, o, none⟩) n c) xs) {k : Nat} (hk : k ≤ xs.length) {ad : Addr} (hb : ad.block = b) (hs : ad.spot = none) (ha : k < xs.length → ad = ⟨b, o + k, none⟩) :
    RdS w B (.slice (some ad) (n - k) (c - k)) (xs.drop k) := by
  rcases h with ⟨⟨a0, e⟩, rfl⟩ | ⟨b', o', c', e, h1, h2, h3, h4, h5⟩
  · cases e
    obtain rfl : k = 0 := by simpa using hk
    exact .inl ⟨⟨_, rfl⟩, rfl⟩
  · cases e
    obtain ⟨ab, ao, asub⟩ := ad
    simp only at hb hs
    subst hb hs
    refine .inr ⟨ab, ao, c - k, by rw [List.length_drop], by rw [List.length_drop]; omega, by omega, h3, h4, fun i hi => ?_⟩
    rw [List.length_drop] at hi
    have := ha (by omega)
    cases this
    rw [show o + k + i = o + (k + i) from by omega, h5 (k + i) (by omega), List.getElem?_drop]

theorem NewSS.rows_of {w w' : World} {ll : List (List Int)} {e : Ending} (h : NewSS w ll e w') : ∃ a n c, e = .returned (.slice a n c) := by
  obtain ⟨a, n, c, e, -⟩ := h
  exact ⟨a, n, c, e⟩

set_option maxRecDepth 100000 in
set_option maxHeartbeats 8000000 in
theorem wo_calls {w : World} {B : Nat → Prop} {bx : Nat} {v : Value} {ll : List (List Int)} (hb : w.heap[bx]? = some (.cells #[v] 22 (0, 0))) (h : RdSS w B v ll) {i : Nat} (hi : i < ll.length) (hn : ll.length ≤ 1000000000) :
    Calls Try.prog 50 #[.int .i64 i, .pointer (some ⟨bx, 0, none⟩)] w (NewSS w (without ll i)) := by
  have c0 : w.cell? ⟨bx, 0, none⟩ = some v := by simpa using cell_of_row w bx 0 #[v] 22 (0, 0) hb
  have hbx := lt_of_heap hb
  obtain ⟨vs, h1, h2⟩ := h.rows
  have hvl := h2.1
  obtain ⟨b, o, c, rfl, hc1, hc2, hB, hlt, -⟩ := h1.cell (i := i) (by omega)
  rw [hvl] at c0 hc1 h1
  unfold maxLen at hc2
  have hi1 : IntKind.i64.wrap ((i : Int) + 1) = ((i + 1 : Nat) : Int) := by rw [IntWalk.i64_in _ (by omega)]; omega
  obtain ⟨ad, hite, had⟩ : ∃ ad : Addr, (if c = i + 1 then some (⟨b, o, none⟩ : Addr) else some ⟨b, o + (i + 1), none⟩) = some ad ∧ (ad.block = b ∧ ad.spot = none ∧ (i + 1 < ll.length → ad = ⟨b, o + (i + 1), none⟩)) := by
    by_cases hcap : c = i + 1
    · exact ⟨⟨b, o, none⟩, if_pos hcap, rfl, rfl, fun h => by omega⟩
    · exact ⟨⟨b, o + (i + 1), none⟩, if_neg hcap, rfl, rfl, fun _ => rfl⟩
  have HAD := Lib.hid had
  have H := Lib.hid (And.intro h1 h2)
  have hk1 : i ≤ c := by omega
  have hk2 : i + 1 ≤ c := by omega
  have hk3 : i + 1 ≤ ll.length := by omega
  have hk4 : (i : Int) + 1 ≤ (ll.length : Int) := by omega
  have hk0 : (0 : Int) ≤ (i : Int) + 1 := by omega
  have HBW := Lib.hid (And.intro hn (And.intro hi hvl))
  clear had hb h h1 h2 hB hlt hvl hn
  go_enter Try.func50, Try.ntmps50
  go_wp2_with fail
  refine wp_region_seq (fun w' => w'.cell? ⟨bx, 0, none⟩ = some (.slice (some ⟨b, o, none⟩) ll.length c)) [9]
    [(0, 1), (1, 2), (2, 2), (4, 1), (5, 2), (6, 2), (7, 2), (3, 0), (8, 0), (9, 0)]
    (by kernel_rfl) (by kernel_rfl) (fun c a d v w h => by cases d <;> exact h) (by kernel_rfl) c0 ?_
  repeat
    first
      | refine wpSeqN_quiet (v := ?_) rfl (Or.inl ⟨rfl, ?_⟩) ?_
      | refine wpSeqN_pure (v := ?_) rfl (Or.inl ⟨rfl, ?_⟩) ?_
    rotate_left
    focus (intro w hSw; (try dsimp only at hSw); first | (go_simp; done) | (go_simp; with_reducible rfl))
    simp only [Act.put, List.setIfInBounds_toArray, List.set_cons_zero, List.set_cons_succ]
  have hb0 : Below w.heap.size w w.drew := (Below.refl _ _).drew
  have HR1 := Lib.hid (And.intro ((H.out.1.below hb0).front (k := i) (by have := HBW.out.2.2; omega)) ((H.out.1.below hb0).back (k := i + 1) (by have := HBW.out.2.2; omega) HAD.out.1 HAD.out.2.1 (by rw [HBW.out.2.2]; exact HAD.out.2.2)))
  have HR2 := Lib.hid (And.intro ((H.out.2.below hb0).take i) ((H.out.2.below hb0).drop (i + 1)))
  refine wpSeqN_loud rfl (fun K hK => ?_)
  refine step_pushes (w0 := w) rfl _ _ rfl (.slice none 0 0) [] rfl (OSS.nil _ _) hb0 (vs.take i) (ll.take i) rfl HR1.out.1 (RowsAt.off (OSS.nil w.heap.size w.drew) HR2.out.1 (Nat.le_refl _) (Below.refl _ _)) (by have := HBW.out.1; simp; omega) ?_
  rintro a5 n5 c5 w5 ho5 hb5 - -
  refine hK.out _ _ (fun _ => (hb5.cell (p := ⟨bx, 0, none⟩) hbx).trans c0) ?_
  clear hK K
  try simp only [Act.put, List.setIfInBounds_toArray, List.set_cons_zero, List.set_cons_succ]
  have HO5 := Lib.hid (And.intro ho5 hb5)
  clear ho5 hb5
  have hbd : Below w.drew.heap.size w.drew w5 := ⟨HO5.out.2.os, HO5.out.2.tape, HO5.out.2.output, HO5.out.2.size, HO5.out.2.block⟩
  refine wpSeqN_loud rfl (fun K hK => ?_)
  refine step_pushes (w0 := w) rfl _ _ rfl (.slice a5 n5 c5) ([] ++ ll.take i) rfl HO5.out.1 HO5.out.2 (vs.drop (i + 1)) (ll.drop (i + 1)) rfl (HR1.out.2.below hbd) (RowsAt.off HO5.out.1 HR2.out.2 (Nat.le_refl _) hbd) (by have := HBW.out.1; simp; omega) ?_
  rintro a6 n6 c6 w6 ho6 hb6 - -
  refine hK.out _ _ (fun _ => (hb6.cell (p := ⟨bx, 0, none⟩) hbx).trans c0) ?_
  clear hK K
  try simp only [Act.put, List.setIfInBounds_toArray, List.set_cons_zero, List.set_cons_succ]
  refine wpSeqN_loud rfl (fun K hK => ?_)
  go_simp
  refine hK.out _ _ (fun h => absurd h (by decide)) ?_
  clear hK K
  try simp only [Act.put, List.setIfInBounds_toArray, List.set_cons_zero, List.set_cons_succ]
  refine wpSeqN_nil ?_
  have HO6 : Hid (OSS w.heap.size w6 (.slice a6 n6 c6) (without ll i) ∧ Below w.heap.size w w6) := ⟨ho6, hb6⟩
  clear ho6 hb6
  go_wp2
  go_ret
  exact ⟨a6, n6, c6, rfl, HO6.out.1, HO6.out.2⟩
end Go.Proofs.Ytjbdiobnlmhidaa
namespace Go.Proofs.Ytjbdiobnlmhidaa
open Go Go.RowKit

theorem RdS.ints_store {w : World} {B : Nat → Prop} {y : Value} {l : List Int} (h : RdS w B y (ints l)) {bx : Nat} {a : Option Addr} {n c : Nat} {t : TypeId} (hb : w.heap[bx]? = some (.cells #[.slice a n c] t (0, 0))) (x : Value) : RdS (w.setCell ⟨bx, 0, none⟩ x) B y (ints l) := by
  rcases h with h | ⟨b, o, c', e, h1, h2, h3, h4, h5⟩
  · exact .inl h
  · refine .inr ⟨b, o, c', e, h1, h2, h3, by rw [setCell_size]; exact h4, fun i hi => ?_⟩
    have hne : b ≠ bx := by
      rintro rfl
      have e1 := h5 i hi
      rw [ints_get (by simpa using hi), cell_of_row w b (o + i) _ t (0, 0) hb] at e1
      rcases Nat.eq_zero_or_pos (o + i) with e0 | e0
      · rw [e0] at e1; simp at e1
      · rw [Array.getElem?_eq_none (by simp; omega)] at e1; cases e1
    rw [← h5 i hi]
    exact World.cell?_of_block (w := w) (setCell_heap_other _ hne)

theorem OSS.store {base : Nat} {w : World} {v : Value} {ll : List (List Int)} (h : OSS base w v ll) {bx : Nat} {a : Option Addr} {n c : Nat} {t : TypeId} (hb : w.heap[bx]? = some (.cells #[.slice a n c] t (0, 0))) (hne : v.ownBlock ≠ some bx) (x : Value) : OSS base (w.setCell ⟨bx, 0, none⟩ x) v ll := by
  obtain ⟨vs, h1, h2, h3⟩ := h
  exact ⟨vs, ownsRow_of_block h1 (fun b hb' => setCell_heap_other _ (fun e => hne (by rw [hb', e]))), h2, fun i hi => (h3 i hi).ints_store hb x⟩

def TrimW (n : Int) (S P : List (List Int)) (w : World) (e : Ending) (w' : World) : Prop :=
  ∃ (a : Option Addr) (k c : Nat) (er : Int) (Q : List (List Int)), e = .returned (.tuple #[.slice a k c, .int .i64 er]) ∧ OSS w.heap.size w' (.slice a k c) Q ∧ Below w.heap.size w w' ∧
    ((validB n S && clsB n P) = false → er = 1 ∧ Q = []) ∧ ((validB n S && clsB n P) = true → (provesB S P = false → er = 11 ∧ Q = []) ∧
      (provesB S P = true → er = 0 ∧ provesB S Q = true ∧ Q.Sublist P ∧ ∀ j, j < Q.length → provesB S (without Q j) = false))

theorem without_sub (Q : List (List Int)) (j : Nat) : (without Q j).Sublist Q := by
  have h := (List.Sublist.refl (Q.take j)).append (List.drop_sublist 1 (Q.drop j))
  rw [List.drop_drop, List.take_append_drop] at h
  exact h
theorem box_free {w : World} {b : Nat} {v : Value} {t : TypeId} (h : w.heap[b]? = some (.cells #[v] t (0, 0))) : w.frozen? ⟨b, 0, none⟩ = false := by
  unfold World.frozen?
  rw [h]
  simp

def TLoop (S P : List (List Int)) (w : World) (bx : Nat) (qa : Option Addr) (qc : Nat) (Q : List (List Int)) (k : Nat) (w' : World) : Prop :=
  (w'.heap[bx]? = some (.cells #[.slice qa Q.length qc] 22 (0, 0)) ∧ OSS w.heap.size w' (.slice qa Q.length qc) Q ∧ Below w.heap.size w w' ∧ (Value.slice qa Q.length qc).ownBlock ≠ some bx ∧ bx < w'.heap.size ∧ w.heap.size ≤ bx ∧ provesB S Q = true ∧ Q.Sublist P) ∧ MinFrom S Q k

set_option maxRecDepth 100000 in
set_option maxHeartbeats 16000000 in
theorem sTrim_calls {w : World} {B B2 : Nat → Prop} {v v2 : Value} {S P : List (List Int)} (h : RdSS w B v S) (h2 : RdSS w B2 v2 P) (n : Int) (hPl : P.length ≤ 10000000) (hl : ∀ c, c ∈ S → c.length ≤ 100000000) (hl2 : ∀ c, c ∈ P → c.length ≤ 100000000) :
    Calls Try.prog 30 #[.int .i64 n, v, v2] w (TrimW n S P w) := by
  obtain ⟨a1, c1, rfl, h1, hc1⟩ := h.form
  obtain ⟨a2, c2, rfl, h1', hc2⟩ := h2.form
  unfold maxLen at hc1 hc2
  have hmf : ∀ (fn : Fn) (first cap : Array Value) (w : World), (Instr.makeFunc fn first cap).run Try.prog w = .ok (.func fn first cap) w := fun _ _ _ _ => rfl
  have H := Lib.hid h
  have H2 := Lib.hid h2
  have HL := Lib.hid hl
  have HL2 := Lib.hid hl2
  clear h h2 hl hl2
  have HC := Lib.hid (valid_calls H.out H2.out n)
  rcases hv : (validB n S && clsB n P) with _ | _
  · rw [hv] at HC
    have HV := Lib.hid hv
    clear hv
    go_enter Try.func30, Try.ntmps30
    go_wp2
    go_step3
    go_wp2_with (go_at_call 34; refine HC.out.mono ?_; rintro e w' ⟨rfl, rfl⟩)
    rw [Exit.noGoto_ret]
    go_ret2
    exact ⟨none, 0, 0, 1, [], rfl, OSS.nil _ _, Below.refl _ _, fun _ => ⟨rfl, rfl⟩, fun e => by rw [HV.out] at e; cases e⟩
  · rw [hv] at HC
    have hv1 : validB n S = true := by simp at hv; exact hv.1
    have hv2 : clsB n P = true := by simp at hv; exact hv.2
    obtain ⟨m, rfl, hm, hSl, hS⟩ := valid_cases hv1
    have HV := Lib.hid hv
    have HP := Lib.hid (Proves_calls H.out H2.out m 0 (by omega) (litsL_of_B hS) (litsL_of_B hv2) (by omega) hPl HL.out HL2.out (by omega))
    have HE : Hid (provesF S P 0 = provesB S P) := by show _ = _; rw [provesB, provesF, rupF_zero]
    rw [HE.out] at HP
    rcases hp : provesB S P with _ | _
    · rw [hp] at HP
      have HPP := Lib.hid hp
      clear hv hS hv1 hv2 hp HE
      go_enter Try.func30, Try.ntmps30
      go_wp2
      go_step3
      go_wp2_with (first | (go_at_call 34; refine HC.out.mono ?_; rintro e w' ⟨rfl, rfl⟩) | (go_at_call 41; refine HP.out.mono ?_; rintro e w5 ⟨rfl, b5⟩; have HB5 := Lib.hid b5; clear b5 HP))
      rw [Exit.noGoto_ret]
      go_ret2
      exact ⟨none, 0, 0, 11, [], rfl, OSS.nil _ _, HB5.out, (fun e => by rw [HV.out] at e; cases e), fun _ => ⟨fun _ => ⟨rfl, rfl⟩, fun e => by rw [HPP.out] at e; cases e⟩⟩
    · rw [hp] at HP
      have HLS := Lib.hid (And.intro (litsL_of_B hS) (litsL_of_B hv2))
      have HPP := Lib.hid hp
      clear hv hS hv1 hv2 hp HE
      go_enter Try.func30, Try.ntmps30
      go_wp2
      go_step3
      go_upto_region 7 with (first | (go_at_call 34; refine HC.out.mono ?_; rintro e w' ⟨rfl, rfl⟩) | (go_at_call 41; refine HP.out.mono ?_; rintro e w5 ⟨rfl, b5⟩; have HB5 := Lib.hid b5; have HN := Lib.hid (Needed_calls (H.out.below b5) (H2.out.below b5) m (by omega) HLS.out.1 HLS.out.2 (by omega) hPl HL.out HL2.out HPP.out); clear b5 HP) | (go_at_call 47; refine HN.out.mono ?_; rintro e w6 ⟨Q0, ⟨qa, qn, qc, rfl, qo, qb⟩, qp, qs⟩; have HQ := Lib.hid (And.intro (qo.weaken HB5.out.size) (And.intro (HB5.out.trans (qb.mono HB5.out.size)) (And.intro qp qs))); clear qo qb qp qs HB5 HN))
      obtain ⟨bx, hbx⟩ : ∃ bx, w6.heap.size = bx := ⟨_, rfl⟩
      rw [hbx]
      refine cutW (fun w7 => w7.heap[bx]? = some (.cells #[.slice qa qn qc] 22 (0, 0)) ∧ OSS w.heap.size w7 (.slice qa qn qc) Q0 ∧ Below w.heap.size w w7 ∧ (Value.slice qa qn qc).ownBlock ≠ some bx ∧ bx < w7.heap.size ∧ w.heap.size ≤ bx) ?_ ?_
      · refine ⟨by rw [alloc_heap, if_pos hbx.symm], HQ.out.1.alloc _, HQ.out.2.1.alloc HQ.out.2.1.size _, fun e => ?_, by rw [alloc_size]; omega, by rw [← hbx]; exact HQ.out.2.1.size⟩
        have := (HQ.out.1.ge bx e).2
        omega
      rintro w7 ⟨g1, g2, g3, g4, g5, g6⟩
      obtain ⟨qa', qc', qe, hqn, hqc⟩ := g2.form
      simp only [Value.slice.injEq] at qe
      obtain ⟨rfl, rfl, rfl⟩ := qe
      unfold maxLen at hqc
      have c1' : w7.cell? ⟨bx, 0, none⟩ = some (.slice qa Q0.length qc) := by simpa using cell_of_row w7 bx 0 #[.slice qa Q0.length qc] 22 (0, 0) g1
      have HQ7 := Lib.hid (And.intro g1 (And.intro g2 (And.intro g3 (And.intro g4 (And.intro g5 (And.intro g6 HQ.out.2.2))))))
      clear HQ g1 g2 g3 g4 g5 g6
      have hq1 : Q0.length ≤ P.length := HQ7.out.2.2.2.2.2.2.2.length_le
      have HT0 : Hid (TLoop S P w bx qa qc Q0 Q0.length w7) := ⟨HQ7.out, fun j h1 h2 => by omega⟩
      clear HQ7
      go_wp2
      go_step3
      go_wp2_with fail
      go_loopg [10] Q0.length (fun kq v10 w' => ∃ (Q : List (List Int)) (qa : Option Addr) (qc : Nat), v10 = .int .i64 kq ∧ kq ≤ Q.length ∧ Q.length ≤ P.length ∧ Q.length ≤ qc ∧ qc ≤ 9223372036854775807 ∧ Hid (TLoop S P w bx qa qc Q kq w'))
      case atStart => exact ⟨Q0, qa, qc, rfl, Nat.le_refl _, hq1, hqn, by omega, HT0⟩
      case round =>
        clear HT0 c1' hqn hqc hq1
        obtain ⟨Q, qa, qc, rfl, hk, hq1, hqn, hqc, HT⟩ := hrel
        obtain ⟨⟨g1, g2, g3, g4, g5, g6, g7, g8⟩, g9⟩ := HT.out
        have c1' : wr.cell? ⟨bx, 0, none⟩ = some (.slice qa Q.length qc) := by simpa using cell_of_row wr bx 0 #[.slice qa Q.length qc] 22 (0, 0) g1
        have hql : ∀ c, c ∈ Q → c.length ≤ 100000000 := fun c hc => HL2.out c (g8.subset hc)
        rcases gk with _ | j
        · have HCP := Lib.hid (copies_calls g2.rd (by omega) (fun c hc => Nat.le_trans (hql c hc) (by omega)))
          clear g1 g2 g3 g4 g5 g6 g7 g8 g9 hql
          go_wp2_with (go_at_call 48; refine HCP.out.mono ?_; rintro e w8 ⟨ra, rn, rc, rfl, ro, rb⟩; have HR := Lib.hid (And.intro ro rb); clear ro rb HCP)
          go_ret2
          obtain ⟨⟨g1, g2, g3, g4, g5, g6, g7, g8⟩, g9⟩ := HT.out
          exact ⟨ra, rn, rc, 0, Q, rfl, HR.out.1.weaken g3.size, g3.trans (HR.out.2.mono g3.size), (fun e => by rw [HV.out] at e; cases e), fun _ => ⟨fun e => (by rw [HPP.out] at e; cases e), fun _ => ⟨rfl, g7, g8, fun j hj => trim_min g7 g9 hj⟩⟩⟩
        · have hjl : j < Q.length := by omega
          have HWO := Lib.hid (wo_calls g1 g2.rd hjl (by omega))
          clear g1 g2 g3 g4 g5 g6 g7 g8 g9
          have hwl : (without Q j).length ≤ Q.length := by unfold without; simp; omega
          have hwl2 : ∀ c, c ∈ without Q j → c ∈ Q := fun c hc => by
            unfold without at hc
            rcases List.mem_append.1 hc with h | h
            · exact List.mem_of_mem_take h
            · exact List.mem_of_mem_drop h
          have HWL := Lib.hid hwl2
          have HQL := Lib.hid hql
          have hj1 : IntKind.i64.wrap (((j + 1 : Nat) : Int) - 1) = (j : Int) := by rw [IntWalk.i64_in _ (by omega)]; omega
          clear hwl2 hql
          rcases hpf : provesF S (without Q j) j with _ | _
          · have HPF := Lib.hid hpf
            clear hpf
            go_wp2_with (first | (go_at_call 50; refine HWO.out.mono ?_; rintro e w8 ⟨ra, rn, rc, rfl, ro, rb⟩; have HR := Lib.hid (And.intro ro rb); have HP2 := Lib.hid (Proves_calls (H.out.below (HT.out.1.2.2.1.trans (rb.mono HT.out.1.2.2.1.size))) ro.rd m j (by omega) HLS.out.1 (fun c hc => HLS.out.2 c (HT.out.1.2.2.2.2.2.2.2.subset (HWL.out c hc))) (by omega) (by omega) HL.out (fun c hc => HQL.out c (HWL.out c hc)) (by omega)); rw [HPF.out] at HP2; clear ro rb HWO) | (go_at_call 41; refine HP2.out.mono ?_; rintro e w9 ⟨rfl, b9⟩; have HB9 := Lib.hid b9; clear b9 HP2))
            go_roundg j
            case measure => omega
            case rel =>
              obtain ⟨⟨g1, g2, g3, g4, g5, g6, g7, g8⟩, g9⟩ := HT.out
              have hb9 : Below wr.heap.size wr w9 := HR.out.2.trans (HB9.out.mono HR.out.2.size)
              exact ⟨Q, qa, qc, rfl, by omega, hq1, hqn, hqc, ⟨⟨by rw [hb9.block bx g5]; exact g1, g2.kept hb9, g3.trans (hb9.mono g3.size), g4, Nat.lt_of_lt_of_le g5 hb9.size, g6, g7, g8⟩, trim_keep hjl g7 g9 HPF.out⟩⟩
          · have HPF := Lib.hid hpf
            clear hpf
            go_wp2_with (first | (go_at_call 50; refine HWO.out.mono ?_; rintro e w8 ⟨ra, rn, rc, rfl, ro, rb⟩; obtain ⟨ra', rc', re, hrn, hrc⟩ := ro.form; simp only [Value.slice.injEq] at re; obtain ⟨rfl, rfl, rfl⟩ := re; unfold maxLen at hrc; have HR := Lib.hid (And.intro ro rb); have HP2 := Lib.hid (Proves_calls (H.out.below (HT.out.1.2.2.1.trans (rb.mono HT.out.1.2.2.1.size))) ro.rd m j (by omega) HLS.out.1 (fun c hc => HLS.out.2 c (HT.out.1.2.2.2.2.2.2.2.subset (HWL.out c hc))) (by omega) (by omega) HL.out (fun c hc => HQL.out c (HWL.out c hc)) (by omega)); rw [HPF.out] at HP2; clear ro rb HWO) | (go_at_call 41; refine HP2.out.mono ?_; rintro e w9 ⟨rfl, b9⟩; have HB9 := Lib.hid (HR.out.2.trans (b9.mono HR.out.2.size)); have HO9 := Lib.hid (HR.out.1.kept b9); have c9 := (HB9.out.cell (p := ⟨bx, 0, none⟩) HT.out.1.2.2.2.2.1).trans c1'; have f9 : w9.frozen? ⟨bx, 0, none⟩ = false := (HB9.out.frozen (p := ⟨bx, 0, none⟩) HT.out.1.2.2.2.2.1).trans (box_free HT.out.1.1); clear b9 HP2 c1'))
            go_roundg j
            case measure => omega
            case rel =>
              obtain ⟨⟨g1, g2, g3, g4, g5, g6, g7, g8⟩, g9⟩ := HT.out
              have hb9 := HB9.out
              obtain ⟨t1, t2⟩ := trim_drop hjl g7 g9 HPF.out
              have hjw : j ≤ (without Q j).length := by unfold without; simp; omega
              have g1' : w9.heap[bx]? = some (.cells #[.slice qa Q.length qc] 22 (0, 0)) := by rw [hb9.block bx g5]; exact g1
              have hne : (Value.slice ra (without Q j).length rc).ownBlock ≠ some bx := fun e => by
                have := (HO9.out.ge bx e).1
                omega
              exact ⟨without Q j, ra, rc, rfl, hjw, by omega, hrn, by omega, ⟨⟨by rw [setCell_heap_same _ g1']; rfl, (HO9.out.store g1' hne _).weaken g3.size, (g3.trans (hb9.mono g3.size)).setCell g6 _, hne, by rw [setCell_size]; exact Nat.lt_of_lt_of_le g5 hb9.size, g6, t1, (without_sub Q j).trans g8⟩, t2⟩⟩
end Go.Proofs.Ytjbdiobnlmhidaa
