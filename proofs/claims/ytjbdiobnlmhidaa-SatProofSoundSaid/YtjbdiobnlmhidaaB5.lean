/- Proved here: Solve answers with values, or with a core and a proof. Conditions: those that each theorem states. -/
import Derived.Test.YtjbdiobnlmhidaaB4
import Derived.Test.YtjbdiobnlmhidaaB2
import Derived.Test.YtjbdiobnlmhidaaA5
import Derived.Test.YtjbdiobnlmhidaaA6
import Derived.Test.YtjbdiobnlmhidaaA7
import Derived.Test.YtjbdiobnlmhidaaB3
import Derived.Laws.ResultCell
set_option linter.unusedVariables false
set_option linter.unusedSimpArgs false
namespace Go.Proofs.Ytjbdiobnlmhidaa
open Go Go.RowKit

def SolOut (w : World) (R' : Roles) (S0 : List (List Int)) (U : List Int) (n : Nat) (z : SS) (e : Ending) (w' : World) : Prop :=
  (∃ a m c vals, e = .returned (.tuple #[.slice a m c, .slice none 0 0, .bool true]) ∧ w'.ownsRow w.heap.size 4 1 (.slice a m c) (boos vals).length (boos vals) ∧ vals.length = n ∧ satB vals S0 U = true) ∨
  (∃ a m c core, e = .returned (.tuple #[.slice none 0 0, .slice a m c, .bool false]) ∧ w'.ownsRow w.heap.size 3 1 (.slice a m c) (ints core).length (ints core) ∧ (∀ b, (Value.slice a m c).ownBlock = some b → R' b = none) ∧ chosenB core U = true ∧ Conf (S0 ++ z.lrn) core)
def SolPost (R : Roles) (w : World) (g : Nat) (S0 : List (List Int)) (U : List Int) (n : Nat) (e : Ending) (w' : World) : Prop :=
  ∃ R' u' s' z', SRep R' w' g u' s' z' ∧ Chg ARole R w R' w' ∧ rupAll S0 z'.lrn = true ∧ z'.lrn.length ≤ 3 ^ n ∧ LitsL n z'.lrn ∧ (∀ c, c ∈ z'.lrn → c.length ≤ 100000000) ∧ SolOut w R' S0 U n z' e w'

/-- the rounds that are left, at most -/
def meas (U : List Int) (n : Nat) (z : SS) (e : Nat) : Nat := (3 ^ n - e) * (U.length + 1) + (U.length - z.lim.length) + 1
theorem meas_lt {U : List Int} {n : Nat} {z z' : SS} {e e' : Nat} (h : e < e') (hle : e' ≤ 3 ^ n) : meas U n z' e' < meas U n z e := by
  unfold meas
  have h1 : (3 ^ n - e' + 1) * (U.length + 1) ≤ (3 ^ n - e) * (U.length + 1) := Nat.mul_le_mul_right _ (by omega)
  rw [Nat.add_mul, Nat.one_mul] at h1
  omega
theorem meas_lt2 {U : List Int} {n : Nat} {z z' : SS} {e : Nat} (h : z.lim.length < U.length) (h2 : z'.lim.length = z.lim.length + 1) : meas U n z' e < meas U n z e := by
  unfold meas
  omega

theorem owns_mono {base base' E n : Nat} {v : Value} {xs : List Value} {w : World} (h : w.ownsRow base E 1 v n xs) (hb : base' ≤ base) : w.ownsRow base' E 1 v n xs := by
  obtain ⟨h0, h1⟩ := h
  refine ⟨h0, ?_⟩
  rcases h1 with h1 | ⟨g, cap, cur, e, hg, h4⟩
  · exact .inl h1
  · exact .inr ⟨g, cap, cur, e, Nat.le_trans hb hg, h4⟩

theorem Chg.ofS {R R' : Roles} {w w' : World} (h : Chg SRole R w R' w') : Chg ARole R w R' w' := h.mono (fun r hr => by have : r.1 < 20 := hr; show r.1 < 30; omega)
theorem Chg.ofBelow {R : Roles} {w w' : World} (hd : Dom R w) (h : Below w.heap.size w w') : Chg ARole R w R w' := Below.toChg hd h _

set_option maxRecDepth 100000 in
set_option maxHeartbeats 16000000 in
theorem solve_calls {R : Roles} {w : World} {g : Nat} {u : PV} {s : SV} {z : SS} {S0 : List (List Int)} {U : List Int} {n e : Nat} (h : SRep R w g u s z) (hl : LI S0 U n z e) (hlim : z.lim = []) {v : Value} (hv : RdS w (fun b => R b = none) v (ints U)) (hU : ∀ x, x ∈ U → Lit n x) (hS : LitsL n S0) (hn : n ≤ 14) (hSl : S0.length ≤ 10000000) :
    Calls Try.prog 46 #[.pointer (some ⟨g, 0, none⟩), v] w (SolPost R w g S0 U n) := by
  obtain ⟨ua, uc, rfl, hu1, hu2⟩ := hv.form
  rw [ints_length] at hu1 hv ⊢
  unfold maxLen at hu2
  have h3n : 3 ^ n ≤ 4782969 := Nat.le_trans (Nat.pow_le_pow_right (by omega) hn) (by decide)
  have hsl1 : z.lrn.length ≤ 10000000 := by have := hl.ll; have := hl.le; omega
  have HOK0 := hl.si.sj.ok (by omega) hSl hsl1
  have HBK := Lib.hid (back_calls h HOK0.wf 0 (by omega) (fun h => by rw [hlim] at h; simp at h) HOK0.lim)
  have hbk : z.back 0 = z := by unfold SS.back; rw [if_pos (by rw [hlim]; simp)]
  rw [hbk] at HBK
  have HU := Lib.hid hU
  have HS := Lib.hid hS
  have HV := Lib.hid hv
  have HLI := Lib.hid hl
  have H3 := Lib.hid h3n
  have hul := hl.si.sj.ul
  clear h hl hlim hv hU hS hbk HOK0 hsl1 h3n
  go_enter Try.func46, Try.ntmps46
  go_wp2_with (go_at_call 58; refine HBK.out.mono ?_; rintro e w1 ⟨rfl, R1, u1, s1, q1, k1⟩; have Q1 := Lib.hid (And.intro q1 k1.ofS); clear q1 k1 HBK)
  go_loopg [7, 8] (meas U n z e) (fun kq v7 v8 w' => ∃ (z1 : SS) (e1 : Nat) (R1 : Roles) (u1 : PV) (s1 : SV), kq = meas U n z1 e1 ∧ Hid (LI S0 U n z1 e1) ∧ Hid (SRep R1 w' g u1 s1 z1 ∧ Chg ARole R w R1 w'))
  case atStart => exact ⟨z, e, R1, u1, s1, rfl, HLI, Q1.out⟩
  case round =>
    clear Q1 HLI
    obtain ⟨z1, e1, R1, u1, s1, hkq, HLI, Q1⟩ := hrel
    have hle := HLI.out.le
    have hll := HLI.out.ll
    have hcl1 : z1.p.cls.length < 100000000 := by
      have h1 := HLI.out.si.pih.sl
      rw [List.length_append] at h1
      have := H3.out
      omega
    obtain ⟨res, p1, p2, p3, p4, p5, p6, p7⟩ := HLI.out.deduce (by omega) hcl1
    have hwi : WI (S0 ++ z1.lrn) z1.p := HLI.out.si.pih.wi
    have HOK1 := Lib.hid (HLI.out.si.sj.ok (by omega) hSl (by have := H3.out; omega))
    have HDE := Lib.hid (deduce_calls (WI.step (S0 ++ z1.lrn)) Q1.out.1 hwi p1 p2 p3 p4 HOK1.out.lev HOK1.out.lim)
    have HPN := Lib.hid HLI.out.si.sj.pn
    have HLE := Lib.hid (And.intro hle hll)
    have HKQ := Lib.hid hkq
    have HP5 := Lib.hid p5
    have HP6 := Lib.hid p6
    have HP7 := Lib.hid p7
    have HLZ : Hid ((z1.deduced res.1).lrn = z1.lrn ∧ (z1.deduced res.1).lim = z1.lim ∧ (z1.deduced res.1).p = res.1) := ⟨rfl, rfl, rfl⟩
    have HCH1 := Lib.hid Q1.out.2
    have HLC := Lib.hid HLI.out.lc
    have HOK2 := Lib.hid (HP5.out.ok (by omega) hSl (by have := H3.out; show z1.lrn.length ≤ _; omega))
    clear hle hll hcl1 p1 p2 p3 p4 p5 p6 p7 hwi hkq Q1 HLI
    obtain ⟨b, hb⟩ : ∃ b, res.2 = b := ⟨_, rfl⟩
    rw [hb] at HDE
    generalize z1.deduced res.1 = z2 at *
    rcases b with _ | _
    · -- a conflict
      obtain ⟨F, f1, f2, f3, f4⟩ := HP7.out hb
      have HF := Lib.hid (And.intro f1 (And.intro f2 f3))
      have HF4 := Lib.hid f4
      clear f1 f2 f3 f4 HP6 HP7 hb
      by_cases hlim : z1.lim.length = 0
      · have HCF : Hid (Conf (S0 ++ z2.lrn) []) := HP5.out.zero (by rw [HLZ.out.2.1]; exact List.eq_nil_of_length_eq_zero hlim) (F := F) (by rw [HLZ.out.2.2]; exact HF.out.2.1) (by rw [HLZ.out.2.2]; exact HF.out.2.2)
        go_upto_region 3 with (go_at_call 59; refine HDE.out.mono ?_; rintro e w2 ⟨rfl, R2, u2, s2, q2, k2⟩; obtain ⟨la, lc, h11, -, -, -⟩ := q2.limForm; rw [HLZ.out.2.1, hlim] at h11; have Q2 := Lib.hid (And.intro q2 (HCH1.out.trans k2.ofS)); clear q2 k2 HDE)
        clear hlim
        go_wp2
        go_ret3
        exact ⟨R2, u2, s2, z2, Q2.out.1, Q2.out.2, HP5.out.rup, by rw [HLZ.out.1]; have := HLE.out; omega, HP5.out.litsL, by rw [HLZ.out.1]; exact HLC.out, .inr ⟨none, 0, 0, [], rfl, World.ownsRow_nil _ _ 3 1, (fun b hb => by cases hb), by unfold chosenB; simp, HCF.out⟩⟩
      · have hlp : 0 < z1.lim.length := by omega
        have bl : ((z1.lim.length : Int) == 0) = false := by simp only [beq_eq_false_iff_ne]; omega
        have HF5 := Lib.hid (HF4.out hlp)
        clear HF4
        go_wp2_with (first | (go_at_call 59; refine HDE.out.mono ?_; rintro e w2 ⟨rfl, R2, u2, s2, q2, k2⟩; obtain ⟨la, lc, h11, -, -, -⟩ := q2.limForm; rw [HLZ.out.2.1] at h11; have HLN := Lib.hid (learn_calls q2 HOK2.out HP5.out.ci (F := F) (by rw [HLZ.out.2.2]; exact HF.out.1) (by rw [HLZ.out.2.2]; exact HF.out.2.1) (by rw [HLZ.out.2.2]; exact HF.out.2.2)); have HK2 := Lib.hid (HCH1.out.trans k2.ofS); clear q2 k2 HDE) | (go_at_call 60; refine HLN.out.mono ?_; rintro e w3 ⟨rfl, c, hlc, R3, u3, s3, q3, k3⟩; obtain ⟨e2, he2, hli2⟩ := HF5.out c hlc; have Q3 := Lib.hid (And.intro q3 (HK2.out.trans k3)); have HL2 := Lib.hid (And.intro he2 hli2); clear q3 k3 hlc he2 hli2 HLN HK2))
        go_roundg (meas U n (z2.attach c) e2)
        case measure => rw [HKQ.out]; exact meas_lt HL2.out.1 HL2.out.2.le
        case rel => exact ⟨z2.attach c, e2, R3, u3, s3, rfl, HL2.out.2, Q3.out⟩
    · obtain ⟨e2, g1, g2, g3, g4, g5⟩ := HP6.out hb
      have HG := Lib.hid (And.intro g1 (And.intro g2 (And.intro g3 (And.intro g4 g5))))
      clear g1 g2 g3 g4 g5 HP6 HP7 hb
      have HL2 : Hid (LI S0 U n z2 e2) := HG.out.2.2.1
      have HE2 : Hid (e2 = num n (digits z2.lim z2.p.tra.length)) := by show _ = _; rw [HLZ.out.2.1, HLZ.out.2.2]; exact HG.out.2.1
      have HH2 : Hid (z2.p.head = z2.p.tra.length) := by show _ = _; rw [HLZ.out.2.2]; exact HG.out.2.2.2.1
      have HUN : Hid (∀ k : Nat, (k : Int) ∈ z2.p.uni → ∃ x, x ∈ z2.p.tra ∧ x ∈ (S0 ++ z2.lrn).getD k []) := by
        have := HG.out.2.2.2.2
        show ∀ k : Nat, _
        rw [HLZ.out.2.2, HLZ.out.1]; exact this
      have HZL : Hid (z2.lim.length = z1.lim.length) := by show _ = _; rw [HLZ.out.2.1]
      have HWF := Lib.hid HL2.out.si.pih.wf
      have hpn2 := HP5.out.pn
      have HPN2 := Lib.hid hpn2
      have HFIN : Hid (rupAll S0 z2.lrn = true ∧ z2.lrn.length ≤ 3 ^ n ∧ LitsL n z2.lrn ∧ (∀ c, c ∈ z2.lrn → c.length ≤ 100000000)) := ⟨HP5.out.rup, by rw [HLZ.out.1]; have := HLE.out; omega, HP5.out.litsL, by rw [HLZ.out.1]; exact HLC.out⟩
      have HME : Hid (∀ z3 e3, e2 < e3 → LI S0 U n z3 e3 → meas U n z3 e3 < gk) := fun z3 e3 h1 h2 => by
        rw [HKQ.out]
        exact meas_lt (Nat.lt_of_le_of_lt HG.out.1 h1) h2.le
      have HME2 : Hid (∀ z3, z2.lim.length < U.length → z3.lim.length = z2.lim.length + 1 → LI S0 U n z3 e2 → meas U n z3 e2 < gk) := fun z3 h1 h2 h3 => by
        rw [HKQ.out]
        rcases Nat.lt_or_ge e1 e2 with h | h
        · exact meas_lt h h3.le
        · have : e1 = e2 := Nat.le_antisymm HG.out.1 h
          rw [this]
          exact meas_lt2 (by rw [← HZL.out]; exact h1) (by rw [h2, HZL.out])
      clear HG HKQ hpn2
      go_upto_region 6 with (go_at_call 59; refine HDE.out.mono ?_; rintro e w2 ⟨rfl, R2, u2, s2, q2, k2⟩)
      refine cutW (fun w2 => ∃ R2 u2 s2, SRep R2 w2 g u2 s2 z2 ∧ Chg ARole R w R2 w2) ⟨R2, u2, s2, q2, HCH1.out.trans k2.ofS⟩ ?_
      clear q2 k2 HDE HCH1
      rintro w2 ⟨R2, u2, s2, q2, k2⟩
      obtain ⟨la, lc, h11, -, hlc1, hlc2⟩ := q2.limForm
      have Q2 := Lib.hid (And.intro q2 k2)
      clear q2 k2
      have hlimb : z2.lim.length ≤ 1000000000 := HOK2.out.lim
      by_cases hlu : z2.lim.length < U.length
      · obtain ⟨ub, uo, rfl, ucell, -, -⟩ := (HV.out.chg Q2.out.2).at hlu
        have hlit := HU.out _ (getD_mem (d := 0) hlu)
        obtain ⟨l, hl⟩ : ∃ l, U.getD z2.lim.length 0 = l := ⟨_, rfl⟩
        rw [hl] at ucell hlit
        have hmem : l ∈ U := by rw [← hl]; exact getD_mem hlu
        have hlz : Lit z2.p.n l := by rw [HPN2.out]; exact hlit
        have hlo := HWF.out.litOk hlz
        have HTC := Lib.hid (truth_calls Q2.out.1.1 l hlo.val hlo.rng)
        have HLI9 := Lib.hid (And.intro hlit (And.intro hmem (And.intro hlz hl)))
        have htc := truth_cases HWF.out hlz
        have HTI := Lib.hid (HL2.out.si.pih.true_iff hlz)
        have HLU := Lib.hid hlu
        obtain ⟨tv, htv⟩ : ∃ tv, z2.p.truth l = tv := ⟨_, rfl⟩
        rw [htv] at HTC htc
        have HTV := Lib.hid htv
        clear hlit hmem hlz hl hlo htv
        by_cases hneg : tv < 0
        · have HNEG : Hid (-l ∈ z2.p.tra) := HTI.out.1 (by rw [HTV.out]; omega)
          have HCO := Lib.hid (core_calls Q2.out.1 HOK2.out HP5.out.ci (HV.out.chg Q2.out.2) (fun x hx => by rw [HPN2.out]; exact HU.out x hx) (by omega) (by exact HLI9.out.2.2.1))
          clear htc HTI
          go_wp2_with (first | (go_at_call 61; refine HTC.out.mono ?_; rintro e w3 ⟨rfl, rfl⟩; clear HTC) | (go_at_call 62; refine HCO.out.mono ?_; rintro e w4 ⟨seen, f, a, m, c, rfl, ki, ho, hb⟩; have HC4 := Lib.hid (And.intro ki (And.intro ho hb)); clear ki ho hb HCO))
          go_ret3
          have hszw : w.heap.size ≤ w2.heap.size := Q2.out.2.size
          exact ⟨R2, u2, s2, z2, Q2.out.1.below HC4.out.2.2, Q2.out.2.trans (Chg.ofBelow Q2.out.1.1.dom HC4.out.2.2), HFIN.out.1, HFIN.out.2.1, HFIN.out.2.2.1, HFIN.out.2.2.2, .inr ⟨a, m, c, coreL U f, rfl, owns_mono HC4.out.2.1 hszw, (fun b hb => by rcases e : R2 b with _ | r; rfl; have h1 := Q2.out.1.1.dom b r e; have h2 := (World.ownsRow.lt HC4.out.2.1 b hb).1; omega), coreL_chosen U f, HC4.out.1.conf HP5.out.ci HNEG.out HLI9.out.1.1 HLI9.out.2.1 (HP5.out.decs HLU.out)⟩⟩
        · have HNF : Hid (¬ -l ∈ z2.p.tra) := fun h => by have := HTI.out.2 h; rw [HTV.out] at this; omega
          obtain ⟨e3, d1, d2⟩ := HL2.out.decide HE2.out HH2.out HLI9.out.1 HNF.out (.inl ⟨hlu, HLI9.out.2.2.2.symm⟩)
          have HD := Lib.hid (And.intro d1 d2)
          have HDC := Lib.hid (decide_calls Q2.out.1 HWF.out HLI9.out.2.2.1 HOK2.out.lev HOK2.out.lim (by have := HOK2.out.tra; omega))
          clear d1 d2 htc HTI
          go_wp2_with (first | (go_at_call 61; refine HTC.out.mono ?_; rintro e w3 ⟨rfl, rfl⟩; clear HTC) | (go_at_call 63; refine HDC.out.mono ?_; rintro e w4 ⟨rfl, R4, u4, s4, q4, k4⟩; have Q4 := Lib.hid (And.intro q4 (Q2.out.2.trans k4.ofS)); clear q4 k4 HDC))
          go_roundg (meas U n (z2.decide l) e3)
          case measure =>
            rcases HD.out.2 with h1 | ⟨h1, h2, h3⟩
            · exact HME.out _ _ h1 HD.out.1
            · have := HD.out.1
              rw [← h1] at this ⊢
              exact HME2.out _ h2 h3 this
          case rel => exact ⟨z2.decide l, e3, R4, u4, s4, rfl, HD.out.1, Q4.out⟩
      · have HNX := Lib.hid (next_calls Q2.out.1 HWF.out.nmax HWF.out.n0 HWF.out.val)
        have hlu' : U.length ≤ z2.lim.length := by omega
        have HLU := Lib.hid hlu'
        go_upto_region 12 with (go_at_call 64; refine HNX.out.mono ?_; rintro e w3 ⟨l, rfl, hb3, hcase⟩)
        have Q3 : Hid (SRep R2 w3 g u2 s2 z2 ∧ Chg ARole R w R2 w3) := ⟨Q2.out.1.below hb3, Q2.out.2.trans (Chg.ofBelow Q2.out.1.1.dom hb3)⟩
        clear hb3 Q2 HNX h11 hlu hlu'
        rcases hcase with ⟨rfl, hall⟩ | ⟨hlz, hval⟩
        · have HSAT : Hid (satB (valsB z2 n) S0 U = true) := HL2.out.si.sat HH2.out HUN.out hall HU.out HLU.out HS.out
          clear hall
          have h3 := Q3.out.1.1.cells.2.2.2.1
          rw [HPN2.out] at h3
          have hvl : z2.p.val.length = n + 1 := by have := HWF.out.val; rw [HPN2.out] at this; omega
          have HVL := Lib.hid hvl
          obtain ⟨w5, hw5⟩ : ∃ w5 : World, w3 = w5 := ⟨_, rfl⟩
          have HB5 : Hid (Below w5.heap.size w5 w3) := by rw [← hw5]; exact Below.refl _ _
          have HW5 : Hid (w.heap.size ≤ w5.heap.size) := by rw [← hw5]; exact Q3.out.2.size
          have HO5 : Hid (w3.ownsRow w5.heap.size 4 1 (.slice none 0 0) (boos []).length (boos [])) := World.ownsRow_nil _ _ 4 1
          have HQ5 : Hid (SRep R2 w5 g u2 s2 z2 ∧ Chg ARole R w R2 w5) := by rw [← hw5]; exact Q3.out
          clear hvl hw5 Q3 h3
          go_wp2_with fail
          go_loopg [9, 10] (n + 1) (fun kq v9 v10 w' => ∃ (i : Nat) (oa : Option Addr) (oc : Nat), v10 = .int .i64 ((i + 1 : Nat) : Int) ∧ i + kq = n + 1 ∧ i ≤ n ∧ v9 = .slice oa i oc ∧ Hid (w'.ownsRow w5.heap.size 4 1 (.slice oa i oc) (boos (valsB z2 i)).length (boos (valsB z2 i)) ∧ Below w5.heap.size w5 w'))
          case atStart => exact ⟨0, none, 0, rfl, by omega, by omega, rfl, HO5.out, HB5.out⟩
          case round =>
            clear HO5 HB5
            obtain ⟨i, oa, oc, rfl, hi, hin, rfl, HO⟩ := hrel
            have HSQ := Lib.hid (HQ5.out.1.below HO.out.2)
            have h3 := HSQ.out.1.cells.2.2.2.1
            rw [HPN2.out] at h3
            by_cases hlt : i < n
            · obtain ⟨vb, vc, h4, vcell, -, -, -⟩ := HSQ.out.1.atVal (i := i + 1) (by rw [HVL.out]; omega)
              rw [HVL.out] at h4
              have hi1 : i + 1 < n + 1 := by omega
              have EV : Hid (valsB z2 (i + 1) = valsB z2 i ++ [decide (0 < z2.p.val.getD (i + 1) 0)]) := by
                show _ = _
                unfold valsB
                rw [List.range_succ, List.map_append]; rfl
              have hvbl := valsB_len z2 i
              obtain ⟨yv, hyv⟩ : ∃ yv, z2.p.val.getD (i + 1) 0 = yv := ⟨_, rfl⟩
              rw [hyv] at vcell EV
              clear hyv
              have hdec : (decide (yv > 0)) = decide (0 < yv) := rfl
              go_wp2_with (at_builtin; refine wpList_app_new (w0 := w5) Try.underlying36 info4 rfl rfl _ _ rfl _ _ rfl (HO.out.1.alloc _) (HO.out.2.alloc HO.out.2.size _) _ 1 1 [.bool (decide (0 < yv))] rfl (by first | rfl | simp) (cell_one_new _ _ _) (by simp [Value.oneCell']) (by omega) (by simp [hvbl]; omega) ?_)
              rintro a7 n7 c7 w7 ho7 hb7 - - hn7
              have hn8 : n7 = i + 1 := by simpa [hvbl] using hn7
              clear hn7
              subst hn8
              have eb : boos (valsB z2 i) ++ [Value.bool (decide (0 < yv))] = boos (valsB z2 (i + 1)) := by rw [EV.out]; simp [boos]
              rw [eb] at ho7
              have ho7' : w7.ownsRow w5.heap.size 4 1 (.slice a7 (i + 1) c7) (boos (valsB z2 (i + 1))).length (boos (valsB z2 (i + 1))) := by rw [boos_length, valsB_len]; simpa [valsB_len] using ho7
              have HO7 := Lib.hid (And.intro ho7' hb7)
              clear ho7 ho7' hb7 eb HO
              go_wp2
              go_roundg (gk - 1)
              case measure => omega
              case rel => exact ⟨i + 1, a7, c7, by go_num, by omega, by omega, rfl, HO7.out⟩
            · obtain rfl : i = n := by omega
              go_wp2
              go_ret3
              exact ⟨R2, u2, s2, z2, HSQ.out, HQ5.out.2.trans (Chg.ofBelow HQ5.out.1.1.dom HO.out.2), HFIN.out.1, HFIN.out.2.1, HFIN.out.2.2.1, HFIN.out.2.2.2, .inl ⟨oa, i, oc, valsB z2 i, rfl, owns_mono HO.out.1 HW5.out, valsB_len z2 i, HSAT.out⟩⟩
        · have hl0 : (l == 0) = false := by have := hlz.1; simp only [beq_eq_false_iff_ne]; exact this
          have hlit : Lit n l := by rw [← HPN2.out]; exact hlz
          have htr : z2.p.truth l = 0 := by unfold PS.truth; rw [hval]; simp
          have hnf : ¬ -l ∈ z2.p.tra := fun hm => by have := (HL2.out.si.pih.true_iff hlz).2 hm; omega
          obtain ⟨e3, d1, d2⟩ := HL2.out.decide HE2.out HH2.out hlit hnf (.inr ⟨HLU.out, htr⟩)
          have HD := Lib.hid (And.intro d1 d2)
          have HDC := Lib.hid (decide_calls Q3.out.1 HWF.out hlz HOK2.out.lev HOK2.out.lim (by have := HOK2.out.tra; omega))
          clear d1 d2 hlz hval hlit htr hnf
          go_wp2_with (go_at_call 63; refine HDC.out.mono ?_; rintro e w4 ⟨rfl, R4, u4, s4, q4, k4⟩; have Q4 := Lib.hid (And.intro q4 (Q3.out.2.trans k4.ofS)); clear q4 k4 HDC)
          go_roundg (meas U n (z2.decide l) e3)
          case measure =>
            rcases HD.out.2 with h1 | ⟨h1, h2, h3⟩
            · exact HME.out _ _ h1 HD.out.1
            · have := HLU.out
              omega
          case rel => exact ⟨z2.decide l, e3, R4, u4, s4, rfl, HD.out.1, Q4.out⟩
end Go.Proofs.Ytjbdiobnlmhidaa
namespace Go.Proofs.Ytjbdiobnlmhidaa
open Go Go.RowKit

theorem box_free4 {w : World} {b : Nat} {vs : Array Value} {t : TypeId} (h : w.heap[b]? = some (.cells vs t (0, 0))) (i : Nat) : w.frozen? ⟨b, i, none⟩ = false := by
  unfold World.frozen?
  rw [h]
  simp

def set4 (w : World) (g : Nat) (y0 y1 y2 y3 : Value) : World := (((w.setCell ⟨g, 0, none⟩ y0).setCell ⟨g, 1, none⟩ y1).setCell ⟨g, 2, none⟩ y2).setCell ⟨g, 3, none⟩ y3
theorem set4_other {w : World} {g b : Nat} (y0 y1 y2 y3 : Value) (h : b ≠ g) : (set4 w g y0 y1 y2 y3).heap[b]? = w.heap[b]? := by
  unfold set4
  rw [setCell_heap_other _ h, setCell_heap_other _ h, setCell_heap_other _ h, setCell_heap_other _ h]
theorem set4_size (w : World) (g : Nat) (y0 y1 y2 y3 : Value) : (set4 w g y0 y1 y2 y3).heap.size = w.heap.size := by
  unfold set4
  simp only [setCell_size]
theorem set4_same {w : World} {g : Nat} {x0 x1 x2 x3 : Value} {t : TypeId} (y0 y1 y2 y3 : Value) (h : w.heap[g]? = some (.cells #[x0, x1, x2, x3] t (0, 0))) : (set4 w g y0 y1 y2 y3).heap[g]? = some (.cells #[y0, y1, y2, y3] t (0, 0)) := by
  unfold set4
  rw [setCell_heap_same _ (setCell_heap_same _ (setCell_heap_same _ (setCell_heap_same _ h)))]
  rfl
theorem set4_below {base g : Nat} {w w' : World} (h : Below base w w') (hb : base ≤ g) (y0 y1 y2 y3 : Value) : Below base w (set4 w' g y0 y1 y2 y3) :=
  (((h.setCell hb _).setCell hb _).setCell hb _).setCell hb _
/-- a row of other blocks, or of no zero, reads on -/
theorem RdS.set4 {w : World} {B : Nat → Prop} {v : Value} {xs : List Value} {g : Nat} (h : RdS w B v xs) (hB : ∀ b, B b → b ≠ g) (y0 y1 y2 y3 : Value) : RdS (set4 w g y0 y1 y2 y3) (fun _ => True) v xs :=
  h.kept (by rw [set4_size]; exact Nat.le_refl _) fun b _ hb => ⟨trivial, set4_other _ _ _ _ (hB b hb)⟩
theorem RdS.set4z {w : World} {B : Nat → Prop} {v : Value} {l : List Int} {g : Nat} (h : RdS w B v (ints l)) (hz : ∀ x, x ∈ l → x ≠ 0) {t : TypeId} {a1 a2 a3 : Option Addr} {n1 n2 n3 c1 c2 c3 : Nat}
    (hg : w.heap[g]? = some (.cells #[.int .i64 0, .slice a1 n1 c1, .slice a2 n2 c2, .slice a3 n3 c3] t (0, 0))) (y0 y1 y2 y3 : Value) : RdS (Go.Proofs.Ytjbdiobnlmhidaa.set4 w g y0 y1 y2 y3) (fun _ => True) v (ints l) := by
  rcases h with h | ⟨b, o, c, e, h1, h2, h3, h4, h5⟩
  · exact .inl h
  · refine .inr ⟨b, o, c, e, h1, h2, trivial, by rw [set4_size]; exact h4, fun i hi => ?_⟩
    have hne : b ≠ g := by
      rintro rfl
      have e1 := h5 i hi
      have hil : i < l.length := by simpa using hi
      rw [ints_get hil, cell_of_row w b (o + i) _ t (0, 0) hg] at e1
      have hm := hz _ (getD_mem (d := 0) hil)
      generalize o + i = j at e1
      rcases j with _ | _ | _ | _ | j
      · have e2 : some (Value.int .i64 0) = some (Value.int .i64 (l.getD i 0)) := e1
        simp only [Option.some.injEq, Value.int.injEq, true_and] at e2
        exact hm e2.symm
      · simp at e1
      · simp at e1
      · simp at e1
      · simp at e1
    rw [← h5 i hi]
    exact World.cell?_of_block (w := w) (set4_other _ _ _ _ hne)
theorem OSS.set4z {w : World} {base : Nat} {v : Value} {ll : List (List Int)} {g : Nat} (h : OSS base w v ll) (hb : g < base) (hz : ∀ c, c ∈ ll → ∀ x, x ∈ c → x ≠ 0) {t : TypeId} {a1 a2 a3 : Option Addr} {n1 n2 n3 c1 c2 c3 : Nat}
    (hg : w.heap[g]? = some (.cells #[.int .i64 0, .slice a1 n1 c1, .slice a2 n2 c2, .slice a3 n3 c3] t (0, 0))) (y0 y1 y2 y3 : Value) : RdSS (set4 w g y0 y1 y2 y3) (fun _ => True) v ll := by
  obtain ⟨vs, h1, h2⟩ := h
  exact ⟨vs, (RdS.of_row h1).set4 (fun b hb' => by omega) _ _ _ _, h2.1, fun i hi => (h2.2 i hi).set4z (hz _ (getD_mem hi)) hg _ _ _ _⟩

theorem info38 : (Try.prog.info? 38).map (·.size) = some 4 := by kernel_rfl
theorem under38 : (match Try.prog.underlying 38 with | some (.struct _) => true | _ => false) = true := by kernel_rfl

theorem sol_results {tmps : Array Value} {w : World} {g : Nat} {x0 x1 x2 x3 er : Value} (h6 : tmps.getD 6 undef = .pointer (some ⟨g, 0, none⟩)) (h7 : tmps.getD 7 undef = er) (hg : w.heap[g]? = some (.cells #[x0, x1, x2, x3] 38 (0, 0))) :
    (results Try.f23 tmps).run Try.prog w = .ok (.tuple #[.agg #[x0, x1, x2, x3], er]) w := by
  rw [results_cell_tmp (p := 6) (u := 7) (ty := 38) rfl, h6, h7]
  have hu := under38
  rcases e : Try.prog.underlying 38 with _ | d
  · rw [e] at hu; cases hu
  · rw [e] at hu
    cases d <;> first | (cases hu; done) | skip
    rw [show (asAddr (.pointer (some ⟨g, 0, none⟩))).run Try.prog w = .ok ⟨g, 0, none⟩ w from rfl]
    simp only [Result.andThen_ok]
    rw [run_loadVar_row w g 38 38 _ (0, 0) _ hg e rfl info38]
    rfl

theorem clsB_of {m : Nat} {P : List (List Int)} (h : LitsL m P) : clsB m P = true := by
  unfold clsB
  refine List.all_eq_true.2 fun c hc => ?_
  unfold litsB
  refine List.all_eq_true.2 fun x hx => ?_
  have := h c hc x hx
  unfold litB
  simp only [Bool.and_eq_true, bne_iff_ne, decide_eq_true_eq]
  omega

def SatPost (n : Int) (S : List (List Int)) (U : List Int) (w : World) (e : Ending) (w' : World) : Prop :=
  ∃ (ans er : Int) (va vc vp : Value) (vals : List Bool) (core : List Int) (proof : List (List Int)), e = .returned (.tuple #[.agg #[.int .i64 ans, va, vc, vp], .int .i64 er]) ∧
    RdS w' (fun _ => True) va (boos vals) ∧ RdS w' (fun _ => True) vc (ints core) ∧ RdSS w' (fun _ => True) vp proof ∧ Below w.heap.size w w' ∧
    ((validB n S && clsB n [U]) = false → er = 1 ∧ ans = 0 ∧ vals = [] ∧ core = [] ∧ proof = []) ∧
    ((validB n S && clsB n [U]) = true → er = 0 ∧ ((ans = 1 ∧ core = [] ∧ proof = [] ∧ (vals.length : Int) = n ∧ satB vals S U = true) ∨
      (ans = 2 ∧ vals = [] ∧ chosenB core U = true ∧ provesB (unitsL S core) proof = true ∧ clsB n proof = true ∧ proof.length ≤ 4782970 ∧ ∀ c, c ∈ proof → c.length ≤ 100000000)))
end Go.Proofs.Ytjbdiobnlmhidaa
namespace Go.Proofs.Ytjbdiobnlmhidaa
open Go Go.RowKit

/-- a solver before its first search -/
theorem LI.start {S : List (List Int)} {U : List Int} {n : Nat} {p : PS} (h : WI S p) (hn : p.n = n) (ht : p.tra = []) (hh : p.head = 0) (hU : U.length ≤ 1000000) : LI S U n ⟨p, [], [], List.replicate (n + 1) 0⟩ (num n (digits [] 0)) := by
  have h1 : PI [] (fun _ => True) S 0 p.watch p := h
  have hpih : PIh [] (fun _ => True) (S ++ []) p := by
    rw [List.append_nil]
    show PI [] _ S p.head.toNat p.watch p
    rw [hh]; exact h1
  refine ⟨⟨{ ci := { pi := ⟨_, hpih, (fun x hx => by cases hx)⟩, srt := List.Pairwise.nil, ll := ?_, lv := fun t ht' => ?_, dec := fun t ht' => ?_ }, pn := hn, levr := fun y hy => ?_, decU := fun t ht' => ?_, und := (fun j hj => by cases hj), rup := rfl, lb := (fun k hk => by cases hk), lt := by show 0 ≤ _; omega, ul := hU }, hpih, (fun x hx => by cases hx)⟩, .inl ?_, by show 0 ≤ _; omega, (fun c hc => by cases hc)⟩
  · show ((List.replicate (n + 1) (0 : Int)).length : Int) = p.n + 1
    rw [hn]; simp
  · have : t < p.tra.length := ht'
    rw [ht] at this; cases this
  · have : t < p.tra.length := ht'
    rw [ht] at this; cases this
  · have := List.eq_of_mem_replicate hy; omega
  · have : t < p.tra.length := ht'
    rw [ht] at this; cases this
  · show num n (digits [] 0) = num n (digits [] p.tra.length)
    rw [ht]; rfl

/-- a core and the learned clauses are a proof -/
theorem core_proof {S L : List (List Int)} {core : List Int} (hr : rupAll S L = true) (hc : Conf (S ++ L) core) : provesB (unitsL S core) (L ++ [[]]) = true := by
  have hsub : ∀ d, d ∈ S → d ∈ unitsL S core := fun d hd => List.mem_append_left _ hd
  unfold provesB lastB
  simp only [Bool.and_eq_true, decide_eq_true_eq]
  refine ⟨⟨by simp, by simp [List.getD_eq_getElem?_getD]⟩, ?_⟩
  rw [rupAll_app, rupAll_mono L S (unitsL S core) hsub hr, Bool.true_and]
  simp only [rupAll, Bool.and_true]
  refine confB_true ?_
  show Conf (unitsL S core ++ L) []
  refine hc.mono (fun d hd => ?_) (fun l hl => ?_)
  · rcases List.mem_append.1 hd with hd | hd
    · exact List.mem_append_left _ (hsub d hd)
    · exact List.mem_append_right _ hd
  · refine .uni (c := [l]) (List.mem_append_left _ (List.mem_append_right _ (List.mem_map.2 ⟨l, hl, rfl⟩))) (by simp) (fun m hm hne => ?_)
    exact absurd (List.mem_singleton.1 hm) hne

/-- block g is a solver before its search, with the clauses S; its blocks lie from base on -/
def SWI (base : Nat) (w : World) (S : List (List Int)) (n g : Nat) : Prop :=
  ∃ R u s p, SRep R w g u s ⟨p, [], [], List.replicate (n + 1) 0⟩ ∧ WI S p ∧ p.n = n ∧ p.tra = [] ∧ p.head = 0 ∧ (∀ b r, R b = some r → base ≤ b) ∧ base ≤ w.heap.size
def SAdd (base : Nat) (S : List (List Int)) (n g : Nat) (w : World) (e : Ending) (w' : World) : Prop :=
  e = .returned (.tuple #[]) ∧ SWI base w' S n g ∧ Below base w w'

theorem SWI.below {base : Nat} {w w' : World} {S : List (List Int)} {n g : Nat} (h : SWI base w S n g) (hb : Below w.heap.size w w') : SWI base w' S n g := by
  obtain ⟨R, u, s, q, h1, h2, h3, h4, h5, h6, h7⟩ := h
  exact ⟨R, u, s, q, h1.below hb, h2, h3, h4, h5, h6, Nat.le_trans h7 hb.size⟩

theorem sol_new {n : Nat} (hn : n ≤ 100000000) (w : World) : Calls Try.prog 44 #[.int .i64 n] w (fun e w' => ∃ g, e = .returned (.pointer (some ⟨g, 0, none⟩)) ∧ SWI w.heap.size w' [] n g ∧ Below w.heap.size w w') := by
  refine (newSolver_calls n hn w).mono ?_
  rintro e w' ⟨g, R, u, s, rfl, r1, r2, r3⟩
  exact ⟨g, rfl, ⟨R, u, s, _, r1, init_PI n hn _ _, rfl, rfl, rfl, r2, r3.size⟩, r3⟩

theorem sol_add {base : Nat} {w : World} {S : List (List Int)} {n g : Nat} (h : SWI base w S n g) {B : Nat → Prop} {v : Value} {c : List Int} (hv : RdS w B v (ints c)) (hc : Lits n c) (hl : c.length ≤ 100000000) (hS : S.length < 100000000) :
    Calls Try.prog 45 #[.pointer (some ⟨g, 0, none⟩), v] w (SAdd base (S ++ [c]) n g w) := by
  obtain ⟨R, u, s, q, h1, h2, h3, h4, h5, h6, h7⟩ := h
  have hwf := h2.wf
  have hcl : q.cls.length = S.length := h2.sl
  have hw := hwf.wat
  have hnm := hwf.nmax
  have hc' : Lits q.n.toNat c := by rw [h3]; simpa using hc
  refine (add_calls h1.1 hv (by omega) (by show q.cls.length < _; omega) (by show q.uni.length < _; have := PI.uniB h2; omega) (fun x hx => by have := hc x hx; show 0 ≤ q.n + x ∧ q.n + x < q.wat.length; omega) (by show q.wat.length ≤ _; omega) (fun r hr => by
    obtain ⟨j, hj, e⟩ := mem_getD [] (show r ∈ q.wat from hr)
    have := PI.rowsB h2 j
    rw [e] at this; omega)).mono ?_
  rintro e w' ⟨rfl, R', u', r1, k1⟩
  have hs := add_same q c
  exact ⟨rfl, ⟨R', u', s, q.add c, (h1.lift r1 k1 hs.2.1).1, (PI.add h2 hc' hl (by omega)).1, by rw [hs.2.1]; exact h3, by rw [hs.2.2.2.2.1]; exact h4, by rw [hs.2.2.2.2.2.1]; exact h5, fun b r hr => chg_ge k1 h6 h7 b r hr, Nat.le_trans h7 k1.size⟩, chg_below k1 h6 h7⟩

def SolW (base : Nat) (w : World) (g : Nat) (S0 : List (List Int)) (U : List Int) (n : Nat) (e : Ending) (w' : World) : Prop :=
  ∃ R' u' s' z', SRep R' w' g u' s' z' ∧ (∀ b r, R' b = some r → base ≤ b) ∧ Below base w w' ∧ rupAll S0 z'.lrn = true ∧ z'.lrn.length ≤ 4782969 ∧ LitsL n z'.lrn ∧ (∀ c, c ∈ z'.lrn → c.length ≤ 100000000) ∧ SolOut w R' S0 U n z' e w'

theorem sol_solve {base : Nat} {w : World} {S : List (List Int)} {U : List Int} {n g : Nat} (h : SWI base w S n g) {v : Value} (hv : RdS w (fun b => b < base) v (ints U)) (hU : Lits n U) (hUl : U.length ≤ 1000000) (hS : LitsL n S) (hn : n ≤ 14) (hSl : S.length ≤ 10000000) :
    Calls Try.prog 46 #[.pointer (some ⟨g, 0, none⟩), v] w (SolW base w g S U n) := by
  obtain ⟨R, u, s, q, h1, h2, h3, h4, h5, h6, h7⟩ := h
  refine (solve_calls h1 (LI.start h2 h3 h4 h5 hUl) rfl (hv.mono fun b _ hb => ?_) (fun x hx => by have := hU x hx; exact ⟨this.1, by omega⟩) hS hn hSl).mono ?_
  · show R b = none
    rcases e : R b with _ | r
    · rfl
    · have := h6 b r e; omega
  rintro e w' ⟨R', u', s', z', r1, k1, a1, a2, a3, a4, a5⟩
  exact ⟨R', u', s', z', r1, fun b r hr => chg_ge k1 h6 h7 b r hr, chg_below k1 h6 h7, a1, Nat.le_trans a2 (Nat.le_trans (Nat.pow_le_pow_right (by omega) hn) (by decide)), a3, a4, a5⟩

theorem learnt_rd {R R1 : Roles} {w w1 : World} {s : SV} {z : SS} {v : Value} (h : SX R w s z) (k : Chg (· = (10, 0)) R w R1 w1) (ho : OwnS R1 w1 (10, 0) 23 v (s.lrow ++ [.slice none 0 0])) : RdSS w1 (fun _ => True) v (z.lrn ++ [[]]) := by
  refine ⟨_, ho.rd.mono (fun _ _ _ => trivial), by simp [h.llen], fun i hi => ?_⟩
  rw [getD_snoc, getD_snoc, h.llen]
  by_cases e : i < z.lrn.length
  · rw [if_pos e, if_pos e]
    exact (((h.lrow i e).chg k (by simp)).rd).mono fun _ _ _ => trivial
  · have e2 : i = z.lrn.length := by simp at hi; omega
    subst e2
    rw [if_neg e, if_neg e, if_pos rfl, if_pos rfl]
    exact .inl ⟨⟨_, rfl⟩, rfl⟩

/-- an own slice of slices whose rows lie in blocks of P -/
def OSP (P : Nat → Prop) (base : Nat) (w : World) (v : Value) (ll : List (List Int)) : Prop :=
  ∃ vs : List Value, w.ownsRow base 23 1 v vs.length vs ∧ RowsAt w (fun b => v.ownBlock ≠ some b ∧ P b) vs ll
theorem OSP.oss {P : Nat → Prop} {base : Nat} {w : World} {v : Value} {ll : List (List Int)} (h : OSP P base w v ll) : OSS base w v ll := by
  obtain ⟨vs, h1, h2⟩ := h
  exact ⟨vs, h1, h2.kept (Nat.le_refl _) fun b _ hb => ⟨hb.1, rfl⟩⟩
theorem OSP.rd {P : Nat → Prop} {base : Nat} {w : World} {v : Value} {ll : List (List Int)} (h : OSP P base w v ll) (hP : ∀ b, base ≤ b → P b) : RdSS w P v ll := by
  obtain ⟨vs, h1, h2⟩ := h
  exact ⟨vs, (RdS.of_row h1).mono fun b _ hb => hP b hb, h2.1, fun i hi => (h2.2 i hi).mono fun b _ hb => hb.2⟩
theorem OSP.kept {P : Nat → Prop} {base : Nat} {w w' : World} {v : Value} {ll : List (List Int)} (h : OSP P base w v ll) (hb : Below w.heap.size w w') : OSP P base w' v ll := by
  obtain ⟨vs, h1, h2⟩ := h
  refine ⟨vs, ownsRow_of_block h1 (fun b hb' => hb.block b (World.ownsRow.lt h1 b hb').2), h2.kept hb.size fun b hlt hb' => ⟨hb', hb.block b hlt⟩⟩
theorem wpList_pushesP {P : Nat → Prop} {ops : Array Oper} {rest : List Oper} {o : Oper} {a : Act} {Q : Exit → Act → World → Prop} {w0 w : World} (hgd : o.guard = none) (s x : Operand) (ho : o.op = .call { callee := .builtin .append, args := #[s, x], argTypes := #[22, 22] })
    (v : Value) (ll : List (List Int)) (hs : a.eval s = v) (hown : OSP P w0.heap.size w v ll) (hbel : Below w0.heap.size w0 w) {B : Nat → Prop} {y : Value} (ms : List Value) (ml : List (List Int)) (hx : a.eval x = y) (hy : RdS w B y ms)
    (hr : RowsAt w (fun b => v.ownBlock ≠ some b ∧ P b) ms ml) (hn : ll.length + ml.length ≤ 1000000000000)
    (h : ∀ (a' : Option Addr) (n' c' : Nat) w', OSP P w0.heap.size w' (.slice a' n' c') (ll ++ ml) → Below w0.heap.size w0 w' → n' = ll.length + ml.length → wpList Try.prog ops Q rest (a.put o.dst (.slice a' n' c')) w') : wpList Try.prog ops Q (o :: rest) a w := by
  obtain ⟨vs, h1, h2⟩ := hown
  refine wpList_app_any (E := 23) (t := 22) (bytes := 24) Try.underlying22 info23 rfl hgd s x ho v vs hs h1 hbel ms hx hy hr.one_cell (by omega) (by rw [h2.1, hr.1]; exact hn) ?_
  intro a' n' c' w' ho' hb' hg' hat hn'
  refine h a' n' c' w' ⟨vs ++ ms, ho', (h2.app hr).kept hg'.size fun b hlt hb => ⟨⟨?_, hb.2⟩, hg'.block b hlt (fun e => hb.1 e.symm)⟩⟩ hb' (by rw [hn', h2.1, hr.1])
  rcases hat with e | e
  · rw [e]; exact hb.1
  · rw [e]; intro e2; cases e2; omega
theorem OSP.nil (P : Nat → Prop) (base : Nat) (w : World) : OSP P base w (.slice none 0 0) [] := ⟨[], World.ownsRow_nil _ _ _ _, RowsAt.nil _ _⟩
theorem unitstepP {P : Nat → Prop} {w w1 : World} {oa : Option Addr} {k oc : Nat} {ll : List (List Int)} {x : Int} (hP : ∀ b, w.heap.size ≤ b → P b) (HO : OSP P w.heap.size w1 (.slice oa k oc) ll) (HB : Below w.heap.size w w1) :
    OSP P w.heap.size ((w1.alloc (.cells #[.int .i64 x] 3)).alloc (.cells #[.slice (some ⟨w1.heap.size, 0, none⟩) 1 1] 23)) (.slice oa k oc) ll ∧
    Below w.heap.size w ((w1.alloc (.cells #[.int .i64 x] 3)).alloc (.cells #[.slice (some ⟨w1.heap.size, 0, none⟩) 1 1] 23)) ∧
    RowsAt ((w1.alloc (.cells #[.int .i64 x] 3)).alloc (.cells #[.slice (some ⟨w1.heap.size, 0, none⟩) 1 1] 23)) (fun b => (Value.slice oa k oc).ownBlock ≠ some b ∧ P b) [.slice (some ⟨w1.heap.size, 0, none⟩) 1 1] [[x]] ∧
    RdS ((w1.alloc (.cells #[.int .i64 x] 3)).alloc (.cells #[.slice (some ⟨w1.heap.size, 0, none⟩) 1 1] 23)) (fun b => b = w1.heap.size + 1) (.slice (some ⟨w1.heap.size + 1, 0, none⟩) 1 1) [.slice (some ⟨w1.heap.size, 0, none⟩) 1 1] := by
  obtain ⟨k1, k2, k3, k4⟩ := unitstep (x := x) HO.oss HB
  have hb : Below w1.heap.size w1 ((w1.alloc (.cells #[.int .i64 x] 3)).alloc (.cells #[.slice (some ⟨w1.heap.size, 0, none⟩) 1 1] 23)) := ((Below.refl _ w1).alloc (Nat.le_refl _) _).alloc (by simp) _
  exact ⟨HO.kept hb, k2, RowsAt.one (((RdS.one_new w1 (.int .i64 x) 3).kept (by simp) fun b hlt' hb' => ⟨⟨fun e => by have := (HO.oss.ge b e).2; omega, hP b (by have := HB.size; omega)⟩, Below.heap_alloc _ _ _ hlt'⟩)), k4⟩

set_option maxRecDepth 100000 in
set_option maxHeartbeats 16000000 in
theorem sSolve_calls {w : World} {B B2 : Nat → Prop} {v v2 : Value} {S : List (List Int)} {U : List Int} (h : RdSS w B v S) (h2 : RdS w B2 v2 (ints U)) (n : Int) (hn : n ≤ 14) (hl : ∀ c, c ∈ S → c.length ≤ 100000000) (hUl : U.length ≤ 1000000) :
    Calls Try.prog 23 #[.int .i64 n, v, v2] w (SatPost n S U w) := by
  obtain ⟨a1, c1, rfl, h1, hc1⟩ := h.form
  obtain ⟨a2, c2, rfl, h1', hc2⟩ := h2.form
  rw [ints_length] at *
  unfold maxLen at hc1 hc2
  obtain ⟨g, hg⟩ : ∃ g, w.heap.size = g := ⟨_, rfl⟩
  obtain ⟨wa, hwa⟩ : ∃ wa, w.alloc (.cells #[.int .i64 0, .slice none 0 0, .slice none 0 0, .slice none 0 0] 38) = wa := ⟨_, rfl⟩
  have ga : wa.heap[g]? = some (.cells #[.int .i64 0, .slice none 0 0, .slice none 0 0, .slice none 0 0] 38 (0, 0)) := by rw [← hwa, alloc_heap, if_pos hg.symm]
  have hsa : wa.heap.size = g + 1 := by rw [← hwa, alloc_size, hg]
  have hba : Below w.heap.size w wa := by rw [← hwa]; exact (Below.refl _ w).alloc (Nat.le_refl _) _
  have h3 := hba.alloc hba.size (.cells #[.slice a2 U.length c2] 23)
  have HC := Lib.hid (valid_calls (h.below h3) (RdSS.one (h2.below hba) rfl) n)
  have gb : (wa.alloc (.cells #[.slice a2 U.length c2] 23)).heap[g]? = some (.cells #[.int .i64 0, .slice none 0 0, .slice none 0 0, .slice none 0 0] 38 (0, 0)) := by rw [alloc_heap, if_neg (by omega)]; exact ga
  have hsb : (wa.alloc (.cells #[.slice a2 U.length c2] 23)).heap.size = g + 2 := by rw [alloc_size, hsa]
  obtain ⟨wb, hwb⟩ : ∃ wb, wa.alloc (.cells #[.slice a2 U.length c2] 23) = wb := ⟨_, rfl⟩
  rw [hwb, hsa] at HC
  rw [hwb] at h3 gb hsb
  have H := Lib.hid (h.below h3).lt
  have H2 := Lib.hid (h2.below h3).lt
  have HB := Lib.hid h3
  have HL := Lib.hid hl
  have HG := Lib.hid gb
  have HSB := Lib.hid hsb
  clear h h2 h3 hl ga hba gb hsb
  have HWG := Lib.hid hg
  rcases hv : (validB n S && clsB n [U]) with _ | _
  · rw [hv] at HC
    have HV := Lib.hid hv
    clear hv
    have c0 : wb.cell? ⟨g, 0, none⟩ = some (.int .i64 0) := by simpa using cell_of_row wb g 0 _ 38 (0, 0) HG.out
    have c1' : wb.cell? ⟨g, 1, none⟩ = some (.slice none 0 0) := by simpa using cell_of_row wb g 1 _ 38 (0, 0) HG.out
    have c2' : wb.cell? ⟨g, 2, none⟩ = some (.slice none 0 0) := by simpa using cell_of_row wb g 2 _ 38 (0, 0) HG.out
    have c3' : wb.cell? ⟨g, 3, none⟩ = some (.slice none 0 0) := by simpa using cell_of_row wb g 3 _ 38 (0, 0) HG.out
    have f0 : wb.frozen? ⟨g, 0, none⟩ = false := box_free4 HG.out 0
    have f1 : wb.frozen? ⟨g, 1, none⟩ = false := box_free4 HG.out 1
    have f2 : wb.frozen? ⟨g, 2, none⟩ = false := box_free4 HG.out 2
    have f3 : wb.frozen? ⟨g, 3, none⟩ = false := box_free4 HG.out 3
    go_enter Try.func23, Try.ntmps23
    go_wp2_with (go_at_call 34; refine HC.out.mono ?_; rintro e w' ⟨rfl, rfl⟩; clear hwa hwb hg)
    refine bodyPost_ret (sol_results rfl rfl (set4_same (.int .i64 0) (.slice none 0 0) (.slice none 0 0) (.slice none 0 0) HG.out)) rfl ?_
    refine ⟨0, 1, _, _, _, [], [], [], rfl, .inl ⟨⟨_, rfl⟩, rfl⟩, .inl ⟨⟨_, rfl⟩, rfl⟩, ⟨[], .inl ⟨⟨_, rfl⟩, rfl⟩, rfl, fun i hi => by cases hi⟩, set4_below HB.out (by have := HWG.out; omega) _ _ _ _, fun _ => ⟨rfl, rfl, rfl, rfl, rfl⟩, fun e => by rw [HV.out] at e; cases e⟩
  · rw [hv] at HC
    have hv1 : validB n S = true := by simp at hv; exact hv.1
    have hv2 : litsB n U = true := by simp [clsB] at hv; exact hv.2
    obtain ⟨m, rfl, hm, hSl, hS⟩ := valid_cases hv1
    have HV := Lib.hid hv
    have HS := Lib.hid (litsL_of_B hS)
    have HU := Lib.hid (lits_of_B hv2)
    have hm14 : m ≤ 14 := by omega
    have HN := Lib.hid (sol_new (n := m) (by omega) wb)
    rw [HSB.out] at HN
    clear hv hv1 hv2 hS hn
    have hsb : wb.heap.size = g + 2 := HSB.out
    go_enter Try.func23, Try.ntmps23
    go_wp2_with (first | (go_at_call 34; refine HC.out.mono ?_; rintro e w' ⟨rfl, rfl⟩; clear hwa hwb) | (go_at_call 44; refine HN.out.mono ?_; rintro e w1 ⟨gs, rfl, q1, b1⟩; have HP := Lib.hid q1; have HB1 := Lib.hid b1; clear q1 b1 HN))
    clear HC HSB hsa hg
    go_loopg [29] S.length (fun kq v29 w' => ∃ k : Nat, v29 = .int .i64 k ∧ k + kq = S.length ∧ Hid (SWI (g + 2) w' (S.take k) m gs) ∧ Hid (Below (g + 2) wb w'))
    case atStart => exact ⟨0, rfl, by omega, HP.out, HB1.out⟩
    case round =>
      clear HP HB1
      obtain ⟨k, rfl, hk, HP, HB1⟩ := hrel
      have HB2 : Hid (Below wb.heap.size wb wr) := by show Below _ _ _; rw [hsb]; exact HB1.out
      by_cases hlt : k < S.length
      · obtain ⟨b, o, a', c', rfl, kcell, hr, hl1, hl2⟩ := (H.out.below HB2.out).at hlt
        have hm := getD_mem (d := ([] : List Int)) hlt
        have HCA := Lib.hid (sol_add HP.out hr (HS.out _ hm) (HL.out _ hm) (by simp; omega))
        rw [take_one hlt] at HCA
        generalize S.getD k [] = x at *
        unfold maxLen at hl2
        clear hr hm HP
        go_wp2_with (go_at_call 45; refine HCA.out.mono ?_; rintro e w5 ⟨rfl, q5, b5⟩; have HP5 := Lib.hid q5; have HB5 := Lib.hid (HB1.out.trans b5); clear q5 b5 HCA HB1)
        go_roundg (gk - 1)
        case measure => omega
        case rel => exact ⟨k + 1, by go_num, by omega, HP5, HB5⟩
      · obtain rfl : k = S.length := by omega
        rw [List.take_length] at HP
        have hu2 : RdS wr (fun b => b < g + 2) (.slice a2 U.length c2) (ints U) := by
          have := H2.out.kept (B' := fun b => b < g + 2) HB1.out.size (fun b hb _ => ⟨by omega, HB1.out.block b (by omega)⟩)
          exact this
        have HSO := Lib.hid (sol_solve HP.out hu2 HU.out hUl HS.out hm14 (by omega))
        clear hu2 HP
        have hwrs := HB1.out.size
        clear HB2 hk hlt
        go_wp2_with (first | (at_builtin; refine wpList_pushesP (P := fun b => R6 b = none) (w0 := w6) rfl _ _ rfl _ [] rfl (OSP.nil _ _ _) (Below.refl _ w6) _ S rfl HRW.out.1 HRW.out.2 (by simp; omega) ?_) | (go_at_call 46; refine HSO.out.mono ?_; rintro e w6 ⟨R6, u6, s6, z6, r6, ge6, b6, p1, p2, p3, p4, (⟨va, vn, vc, vals, rfl, o6, ol, os⟩ | ⟨va, vn, vc, core, rfl, o6, on, oc, of⟩)⟩; (have hb6 := HB1.out.trans b6; have HG6 : Hid (w6.heap[g]? = some (.cells #[.int .i64 0, .slice none 0 0, .slice none 0 0, .slice none 0 0] 38 (0, 0))) := (hb6.block g (by omega)).trans HG.out; have c0 : w6.cell? ⟨g, 0, none⟩ = some (.int .i64 0) := (by simpa using cell_of_row w6 g 0 _ 38 (0, 0) HG6.out); have c1' : w6.cell? ⟨g, 1, none⟩ = some (.slice none 0 0) := (by simpa using cell_of_row w6 g 1 _ 38 (0, 0) HG6.out); have c2' : w6.cell? ⟨g, 2, none⟩ = some (.slice none 0 0) := (by simpa using cell_of_row w6 g 2 _ 38 (0, 0) HG6.out); have c3' : w6.cell? ⟨g, 3, none⟩ = some (.slice none 0 0) := (by simpa using cell_of_row w6 g 3 _ 38 (0, 0) HG6.out); have f0 : w6.frozen? ⟨g, 0, none⟩ = false := box_free4 HG6.out 0; have f1 : w6.frozen? ⟨g, 1, none⟩ = false := box_free4 HG6.out 1; have f2 : w6.frozen? ⟨g, 2, none⟩ = false := box_free4 HG6.out 2; have f3 : w6.frozen? ⟨g, 3, none⟩ = false := box_free4 HG6.out 3; have HO := Lib.hid o6; have HB6 := Lib.hid hb6; have HVV := Lib.hid (And.intro ol os); clear o6 hb6 b6 ol os r6 ge6 p1 p2 p3 p4 HSO HB1); rotate_left; (have hb6 := HB1.out.trans b6; have HON := Lib.hid on; clear on; have HX := Lib.hid (And.intro r6 (And.intro ge6 (And.intro p1 (And.intro p2 (And.intro p3 p4))))); have HO := Lib.hid o6; have HB6 := Lib.hid hb6; have HVV := Lib.hid (And.intro oc of); obtain ⟨vs6, v61, v62⟩ := (H.out.below (w' := w6) (by rw [hsb]; exact hb6)).rows; have HR6 : Hid (∀ b, b < g + 2 → R6 b = none) := (fun b hb => by rcases e : R6 b with _ | r; rfl; have := ge6 b r e; omega); have HRW := Lib.hid (And.intro v61 (v62.kept (B' := fun b => (Value.slice none 0 0).ownBlock ≠ some b ∧ R6 b = none) (Nat.le_refl _) (fun b _ hb => ⟨⟨nofun, HR6.out b (by omega)⟩, rfl⟩))); clear v61 v62; clear o6 hb6 b6 oc of r6 ge6 p1 p2 p3 p4 HSO HB1); rotate_right))
        · refine bodyPost_ret (sol_results rfl rfl (set4_same _ _ _ _ HG6.out)) rfl ?_
          have hbw : Below w.heap.size w w6 := HB.out.trans (HB6.out.mono (by have := HWG.out; omega))
          refine ⟨1, 0, _, _, _, vals, [], [], rfl, ((RdS.of_row HO.out).mono (B' := fun b => b ≠ g) (fun b _ hb => ?_)).set4 (fun b hb => hb) _ _ _ _, .inl ⟨⟨_, rfl⟩, rfl⟩, ⟨[], .inl ⟨⟨_, rfl⟩, rfl⟩, rfl, fun i hi => by cases hi⟩, set4_below hbw (by have := HWG.out; omega) _ _ _ _, (fun e => by rw [HV.out] at e; cases e), fun _ => ⟨rfl, .inl ⟨rfl, rfl, rfl, by have := HVV.out.1; omega, HVV.out.2⟩⟩⟩
          omega
        · rintro a7 n7 c7 w7 o7 b7 hn7
          obtain rfl : n7 = S.length + 0 := by simpa using hn7
          have HO7 := Lib.hid (And.intro o7 b7)
          have HN6 : Hid (∀ b, w6.heap.size ≤ b → R6 b = none) := fun b hb => by
            rcases e : R6 b with _ | r
            · rfl
            · have := HX.out.1.1.dom b r e; omega
          obtain ⟨hvc1, hvc2⟩ := HVV.out
          have hcl : core.length ≤ U.length := by
            unfold chosenB at hvc1
            simp only [Bool.and_eq_true] at hvc1
            exact (List.isSublist_iff_sublist.1 hvc1.1).length_le
          obtain ⟨va', vc', ev, hvl1, hvl2⟩ := (RdS.of_row HO.out).form
          simp only [Value.slice.injEq] at ev
          obtain ⟨rfl, rfl, rfl⟩ := ev
          rw [ints_length] at hvl1 HO HON
          rw [ints_length]
          unfold maxLen at hvl2
          clear o7 b7 hn7 hvc1 hvc2 HRW
          go_wp2_with fail
          go_loopg [14, 53] core.length (fun kq v5 v6 w' => ∃ (k : Nat) (oa : Option Addr) (oc : Nat), v6 = .int .i64 k ∧ k + kq = core.length ∧ v5 = .slice oa (S.length + k) oc ∧ Hid (OSP (fun b => R6 b = none) w6.heap.size w' (.slice oa (S.length + k) oc) (unitsL S (core.take k))) ∧ Hid (Below w6.heap.size w6 w'))
          case atStart => exact ⟨0, _, _, rfl, by omega, rfl, by show OSP _ _ _ _ _; simpa [unitsL] using HO7.out.1, HO7.out.2⟩
          case round =>
            clear HO7
            obtain ⟨k, oa, oc, rfl, hk, rfl, HO8, HB8⟩ := hrel
            by_cases hlt : k < core.length
            · obtain ⟨b, o, rfl, kcell, -, -⟩ := ((RdS.of_row HO.out).below HB8.out).at hlt
              have HT := Lib.hid (take_unit (ll := S) hlt)
              have HLn : Hid ((unitsL S (core.take k)).length = S.length + k) := by show List.length _ = _; simp [unitsL]; omega
              generalize core.getD k 0 = x at *
              have K := Lib.hid (unitstepP (x := x) HN6.out HO8.out HB8.out)
              clear HO8 HB8
              go_wp2_with (at_builtin; refine wpList_pushesP (P := fun b => R6 b = none) (w0 := w6) rfl _ _ rfl _ _ rfl K.out.1 K.out.2.1 _ [[x]] rfl K.out.2.2.2 K.out.2.2.1 (by rw [HLn.out]; simp; omega) ?_)
              rintro a5 n5 c5 w5 ho5 hb5 hn5
              rw [HT.out] at ho5
              obtain rfl : n5 = S.length + (k + 1) := by have h9 := HLn.out; try simp only [List.length_cons, List.length_nil] at hn5
                                                         omega
              have HO5 := Lib.hid ho5
              have HB5 := Lib.hid hb5
              clear ho5 hb5 hn5 K
              go_wp2
              go_roundg (gk - 1)
              case measure => omega
              case rel => exact ⟨k + 1, a5, c5, by go_num, by omega, rfl, HO5, HB5⟩
            · obtain rfl : k = core.length := by omega
              rw [List.take_length] at HO8
              have hsr := HX.out.1.below HB8.out
              obtain ⟨la, lc, el, hl1, hl2, -⟩ := hsr.2.lrn.form
              have e10 := hsr.cells.1
              rw [el] at e10
              unfold maxLen at hl2
              have hll := hsr.2.llen
              have hlb := HX.out.2.2.2.1
              have HSR := Lib.hid hsr
              have HEL := Lib.hid el
              have HLL := Lib.hid hll
              clear hsr el hlb hll
              have HLB : Hid (s6.lrow.length ≤ 4782969) := by show _ ≤ _; rw [HLL.out]; exact HX.out.2.2.2.1
              go_wp2_with (at_builtin; refine wpList_app Try.underlying22 info23 rfl rfl _ _ rfl _ _ rfl (HEL.out ▸ (HSR.out.alloc _).2.lrn) (HSR.out.alloc _).1.dom _ 1 1 [.slice none 0 0] rfl rfl (cell_one_new _ _ _) (by simp [Value.oneCell']) (by omega) (by have := HLB.out; omega) ?_)
              rintro a9 n9 c9 w9 R9 o9 k9 d9 hn9
              have hz6 : g + 2 ≤ w6.heap.size := by have := HB6.out.size; omega
              have hzr : w6.heap.size ≤ wr.heap.size := HB8.out.size
              have ba : Below wr.heap.size wr (wr.alloc (.cells #[.slice none 0 0] 23)) := (Below.refl _ wr).alloc (Nat.le_refl _) _
              have b9 : Below (g + 2) wb w9 := (HB6.out.trans (HB8.out.mono hz6)).trans ((ba.mono (by omega)).trans (chg_below k9 HX.out.2.1 (by rw [alloc_size]; omega)))
              have rdL := learnt_rd (HSR.out.alloc _).2 k9 o9
              have rdS : RdSS w9 _ (.slice oa (S.length + core.length) oc) (unitsL S core) := ((HO8.out.rd HN6.out).below ba).chg k9
              obtain ⟨hvc1, hvc2⟩ := HVV.out
              have hsub : ∀ x, x ∈ core → x ∈ U := by
                unfold chosenB at hvc1
                simp only [Bool.and_eq_true] at hvc1
                exact fun x hx => (List.isSublist_iff_sublist.1 hvc1.1).subset hx
              have huL : LitsL m (unitsL S core) := fun c hc => by
                rcases List.mem_append.1 hc with hc | hc
                · exact HS.out c hc
                · obtain ⟨x, hx, rfl⟩ := List.mem_map.1 hc
                  intro y hy
                  rw [List.mem_singleton.1 hy]
                  exact HU.out x (hsub x hx)
              have hpL : LitsL m (z6.lrn ++ [[]]) := fun c hc => by
                rcases List.mem_append.1 hc with hc | hc
                · exact HX.out.2.2.2.2.1 c hc
                · rw [List.mem_singleton.1 hc]
                  exact fun y hy => by cases hy
              have hul : (unitsL S core).length = S.length + core.length := by simp [unitsL]
              have hur : ∀ c, c ∈ unitsL S core → c.length ≤ 100000000 := fun c hc => by
                rcases List.mem_append.1 hc with hc | hc
                · exact HL.out c hc
                · obtain ⟨x, hx, rfl⟩ := List.mem_map.1 hc
                  simp
              have hpr : ∀ c, c ∈ z6.lrn ++ [[]] → c.length ≤ 100000000 := fun c hc => by
                rcases List.mem_append.1 hc with hc | hc
                · exact HX.out.2.2.2.2.2 c hc
                · rw [List.mem_singleton.1 hc]; simp
              have hpl : (z6.lrn ++ [[]]).length ≤ 4782970 := by have := HX.out.2.2.2.1; simp; omega
              have HND := Lib.hid (Needed_calls rdS rdL m (by omega) huL hpL (by rw [hul]; omega) (by omega) hur hpr (core_proof HX.out.2.2.1 hvc2))
              have HPL := Lib.hid (And.intro hpL (And.intro hpr hpl))
              have HB9 := Lib.hid b9
              have hco9 : RdS w9 (fun b => b ≠ g) (.slice va core.length vc) (ints core) := by
                have h0 := ownsRow_of_block (w' := w9) HO.out (fun b hb => by
                  have hlt := World.ownsRow.lt HO.out b hb
                  have hzz : w6.heap.size ≤ (wr.alloc (.cells #[.slice none 0 0] 23)).heap.size := by rw [alloc_size]; omega
                  rw [k9.kept b (by omega) (fun r hr _ => by rw [HON.out b hb] at hr; cases hr), ba.block b (by omega), HB8.out.block b hlt.2])
                exact (RdS.of_row h0).mono fun b _ hb => by omega
              have HCO := Lib.hid hco9
              clear hn9 hco9 rdL rdS hsub huL hpL hul hur hpr hpl hvc1 hvc2 o9 k9 d9 ba b9 HLB HLL HEL HSR e10 hl1 hl2 hk hlt HO8
              go_wp2_with (first | (go_at_call 47; refine HND.out.mono ?_; rintro e w10 ⟨Q, ⟨qa, qn, qc, rfl, qo, qb⟩, qp, qs⟩; have hql := qs.length_le; have HQ := Lib.hid (And.intro qp qs); have HB12 := Lib.hid qb; have HB10 := Lib.hid (HB9.out.trans (qb.mono (by have := HB9.out.size; omega))); have HCP := Lib.hid (copies_calls qo.rd (by have := HPL.out.2.2; omega) (fun c hc => Nat.le_trans (HPL.out.2.1 c (qs.subset hc)) (by omega))); clear qo qb qp qs HND) | (go_at_call 48; refine HCP.out.mono ?_; rintro e w11 ⟨ra, rn, rc, rfl, ro, rb⟩; have HB12 := Lib.hid (HB12.out.trans (rb.mono HB12.out.size)); have HB11 := Lib.hid (HB10.out.trans (rb.mono (by have := HB10.out.size; omega))); have hz10 : g + 2 ≤ w10.heap.size := (by have := HB10.out.size; omega); have HRO := Lib.hid ro; have HG6 : Hid (w11.heap[g]? = some (.cells #[.int .i64 0, .slice none 0 0, .slice none 0 0, .slice none 0 0] 38 (0, 0))) := (HB11.out.block g (by omega)).trans HG.out; have c0 : w11.cell? ⟨g, 0, none⟩ = some (.int .i64 0) := (by simpa using cell_of_row w11 g 0 _ 38 (0, 0) HG6.out); have c1' : w11.cell? ⟨g, 1, none⟩ = some (.slice none 0 0) := (by simpa using cell_of_row w11 g 1 _ 38 (0, 0) HG6.out); have c2' : w11.cell? ⟨g, 2, none⟩ = some (.slice none 0 0) := (by simpa using cell_of_row w11 g 2 _ 38 (0, 0) HG6.out); have c3' : w11.cell? ⟨g, 3, none⟩ = some (.slice none 0 0) := (by simpa using cell_of_row w11 g 3 _ 38 (0, 0) HG6.out); have f0 : w11.frozen? ⟨g, 0, none⟩ = false := box_free4 HG6.out 0; have f1 : w11.frozen? ⟨g, 1, none⟩ = false := box_free4 HG6.out 1; have f2 : w11.frozen? ⟨g, 2, none⟩ = false := box_free4 HG6.out 2; have f3 : w11.frozen? ⟨g, 3, none⟩ = false := box_free4 HG6.out 3; clear ro rb HCP))
              refine bodyPost_ret (sol_results rfl rfl (set4_same _ _ _ _ HG6.out)) rfl ?_
              have hbw : Below w.heap.size w w11 := HB.out.trans (HB11.out.mono (by have := HWG.out; omega))
              obtain ⟨hvc1, hvc2⟩ := HVV.out
              have hz11 : w6.heap.size ≤ wr.heap.size := HB8.out.size
              have hco := HCO.out.kept (B' := fun b => b ≠ g) (by have := HB12.out.size; exact this) (fun b hlt hb => ⟨hb, HB12.out.block b hlt⟩)
              refine ⟨2, 0, _, _, _, [], core, Q, rfl, .inl ⟨⟨_, rfl⟩, rfl⟩, hco.set4 (fun b hb => hb) _ _ _ _, HRO.out.set4z (by omega) (fun c hc x hx => (HPL.out.1 c (HQ.out.2.subset hc) x hx).1) HG6.out _ _ _ _, set4_below hbw (by have := HWG.out; omega) _ _ _ _, (fun e => by rw [HV.out] at e; cases e), fun _ => ⟨rfl, .inr ⟨rfl, rfl, hvc1, HQ.out.1, clsB_of (fun c hc => HPL.out.1 c (HQ.out.2.subset hc)), by have := HPL.out.2.2; have := HQ.out.2.length_le; omega, fun c hc => HPL.out.2.1 c (HQ.out.2.subset hc)⟩⟩⟩
end Go.Proofs.Ytjbdiobnlmhidaa
