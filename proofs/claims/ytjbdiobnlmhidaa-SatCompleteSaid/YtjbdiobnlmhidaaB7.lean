/- Proved here: three laws return true: SatPropagateMatchesSpec, SatCheckMatchesSpec, SatAnswers. Conditions: those that each theorem states. -/
import Derived.Test.YtjbdiobnlmhidaaB6
import Derived.Deep.DeepMust
set_option linter.unusedVariables false
set_option linter.unusedSimpArgs false
namespace Go.Proofs.Ytjbdiobnlmhidaa
open Go Go.RowKit

theorem large_false {S : List (List Int)} {k : Nat} (h : largeB S k = false) : S.length ≤ k ∧ ∀ c, c ∈ S → c.length ≤ 30 := by
  unfold largeB longB at h
  rw [Bool.or_eq_false_iff] at h
  refine ⟨by simpa using h.1, fun c hc => ?_⟩
  have := List.any_eq_false.1 h.2 c hc
  simpa using this
/-- a problem that is not too large -/
structure Small (n : Int) (S P : List (List Int)) (A : List Int) : Prop where
  n : n ≤ 40
  sl : S.length ≤ 60
  sr : ∀ c, c ∈ S → c.length ≤ 30
  pl : P.length ≤ 40
  pr : ∀ c, c ∈ P → c.length ≤ 30
  al : A.length ≤ 40
theorem too_false {n : Int} {S P : List (List Int)} {A : List Int} (h : tooB n S P A = false) : Small n S P A := by
  unfold tooB at h
  simp only [Bool.or_eq_false_iff, decide_eq_false_iff_not] at h
  exact ⟨by omega, (large_false h.2.1).1, (large_false h.2.1).2, (large_false h.2.2.1).1, (large_false h.2.2.1).2, by omega⟩

def Yes (w : World) (e : Ending) (w' : World) : Prop := e = .returned (.bool true) ∧ Below w.heap.size w w'
def SSPost (w : World) (S : List (List Int)) (e : Ending) (w' : World) : Prop := ∃ a c, e = .returned (.slice a S.length c) ∧ RdSS w' (fun _ => True) (.slice a S.length c) S ∧ Below w.heap.size w w'
def IPost (w : World) (A : List Int) (e : Ending) (w' : World) : Prop := ∃ a c, e = .returned (.slice a A.length c) ∧ RdS w' (fun _ => True) (.slice a A.length c) (ints A) ∧ Below w.heap.size w w'
def RPost (w : World) (l : List Int) (ok : Bool) (er : Int) (e : Ending) (w' : World) : Prop := ∃ a c, e = .returned (.tuple #[.slice a l.length c, .bool ok, .int .i64 er]) ∧ RdS w' (fun _ => True) (.slice a l.length c) (ints l) ∧ Below w.heap.size w w'

theorem ss_post {w : World} {S : List (List Int)} {e : Ending} {w' : World} (h : NewSS w S e w') : SSPost w S e w' := by
  obtain ⟨a, n, c, rfl, ho, hb⟩ := h
  have hr := ho.rd
  obtain ⟨a', c', e, -⟩ := hr.form
  cases e
  exact ⟨_, _, rfl, hr, hb⟩
theorem s_post {w : World} {A : List Int} {e : Ending} {w' : World} (h : NewPost w 3 (ints A) e w') : IPost w A e w' := by
  obtain ⟨a, n, c, rfl, ho, hb⟩ := h
  have hr := RdS.of_row ho
  obtain ⟨a', c', e, -⟩ := hr.form
  rw [ints_length] at e
  cases e
  exact ⟨_, _, rfl, hr.mono fun _ _ _ => trivial, hb⟩
theorem r_post {w : World} {l : List Int} {ok : Bool} {er : Int} {e : Ending} {w' : World} (h : PropPost w l ok er e w') : RPost w l ok er e w' := by
  obtain ⟨a, n, c, rfl, ho, hb⟩ := h
  have hr := RdS.of_row ho
  obtain ⟨a', c', e, -⟩ := hr.form
  rw [ints_length] at e
  cases e
  exact ⟨_, _, rfl, hr.mono fun _ _ _ => trivial, hb⟩
theorem own_ss {w : World} {B : Nat → Prop} {v : Value} {S : List (List Int)} (h : RdSS w B v S) (hl : S.length ≤ 60) (hr : ∀ c, c ∈ S → c.length ≤ 30) : Calls Try.prog 13 #[v] w (SSPost w S) :=
  (OwnClauses_calls h (by omega) fun c hc => by have := hr c hc; omega).mono fun _ _ hp => ss_post hp
theorem own_s {w : World} {B : Nat → Prop} {v : Value} {A : List Int} (h : RdS w B v (ints A)) (hl : A.length ≤ 40) : Calls Try.prog 14 #[v] w (IPost w A) :=
  (OwnInts_calls h (by omega)).mono fun _ _ hp => s_post hp
theorem sprop {w : World} {B B2 : Nat → Prop} {v v2 : Value} {S : List (List Int)} {A : List Int} (h : RdSS w B v S) (h2 : RdS w B2 v2 (ints A)) (n : Int) (hr : ∀ c, c ∈ S → c.length ≤ 30) (hl : A.length ≤ 100000) :
    Calls Try.prog 15 #[.int .i64 n, v, v2] w (RPost w (propL n S A) (propOk n S A) (propErr n S A)) :=
  (sPropagate_calls h h2 n (fun c hc => by have := hr c hc; omega) (by omega)).mono fun _ _ hp => r_post hp
theorem rprop {w : World} {B B2 : Nat → Prop} {v v2 : Value} {S : List (List Int)} {A : List Int} (h : RdSS w B v S) (h2 : RdS w B2 v2 (ints A)) (n : Int) :
    Calls Try.prog 16 #[.int .i64 n, v, v2] w (RPost w (propL n S A) (propOk n S A) (propErr n S A)) :=
  (rPropagate_calls h h2 n).mono fun _ _ hp => r_post hp
theorem ints_yes {w : World} {B B2 : Nat → Prop} {v v2 : Value} {l : List Int} (h : RdS w B v (ints l)) (h2 : RdS w B2 v2 (ints l)) : Calls Try.prog 17 #[v, v2] w (Yes w) := ints_same h h2
theorem cls_yes {w : World} {B B2 : Nat → Prop} {v v2 : Value} {l : List (List Int)} (h : RdSS w B v l) (h2 : RdSS w B2 v2 l) : Calls Try.prog 18 #[v, v2] w (Yes w) := by
  refine (kClauses_calls h h2).mono ?_
  rintro e w' ⟨rfl, hs⟩
  exact ⟨by simp, hs.below _⟩
theorem awake_yes (hs : SolveOk) (w : World) : Calls Try.prog 12 #[] w (Yes w) := awake_calls hs w

set_option maxHeartbeats 8000000 in
theorem law3_calls (hs : SolveOk) {w0 : World} {B B2 : Nat → Prop} {v v2 : Value} {S : List (List Int)} {A : List Int} (h : RdSS w0 B v S) (h2 : RdS w0 B2 v2 (ints A)) (n : Int) :
    Calls Try.prog 3 #[.int .i64 n, v, v2] w0 (Yes w0) := by
  have HT := Lib.hid (large_calls h (v2 := .slice none 0 0) (pp := []) (B2 := fun _ => True) ⟨[], .inl ⟨⟨_, rfl⟩, rfl⟩, rfl, nofun⟩ h2 n)
  obtain ⟨a1, c1, rfl, -⟩ := h.form
  obtain ⟨a2, c2, rfl, -⟩ := h2.form
  rw [ints_length] at *
  have HS0 := Lib.hid h
  have HA0 := Lib.hid h2
  rcases ht : tooB n S [] A with _ | _
  · have hz := too_false ht
    have HC := Lib.hid (own_ss HS0.out hz.sl hz.sr)
    have HB0 := Lib.hid (Below.refl w0.heap.size w0)
    rw [ht] at HT
    clear h h2 ht
    go_enter Try.func3, Try.ntmps3
    go_wp2_with (first | (go_at_call 11; refine HT.out.mono ?_; rintro e wz ⟨rfl, rfl⟩; clear HT) | (go_at_call 13; go_must (refine HC.out.mono ?_; rintro e w1 ⟨ao, co, rfl, ro, bb⟩; have HB1 := Lib.hid (stepB HB0.out bb); have HS1 := Lib.hid (HS0.out.below bb); have HA1 := Lib.hid (HA0.out.below bb); have HO1 := Lib.hid (ro); have K1 := Lib.hid (own_s HA1.out hz.al); clear ro; clear bb HC HB0 HS0 HA0 )) | (go_at_call 14; go_must (refine K1.out.mono ?_; rintro e w2 ⟨ai, ci, rfl, ro, bb⟩; have HB2 := Lib.hid (stepB HB1.out bb); have HS2 := Lib.hid (HS1.out.below bb); have HA2 := Lib.hid (HA1.out.below bb); have HO2 := Lib.hid (HO1.out.below bb); have HI2 := Lib.hid (ro); have K2 := Lib.hid (sprop HO2.out HI2.out n hz.sr (by have := hz.al; omega)); clear ro; clear bb K1 HB1 HS1 HA1 HO1 )) | (go_at_call 15; go_must (refine K2.out.mono ?_; rintro e w3 ⟨al, cl, rfl, ro, bb⟩; have HB3 := Lib.hid (stepB HB2.out bb); have HS3 := Lib.hid (HS2.out.below bb); have HA3 := Lib.hid (HA2.out.below bb); have HO3 := Lib.hid (HO2.out.below bb); have HI3 := Lib.hid (HI2.out.below bb); have HL3 := Lib.hid (ro); have K3 := Lib.hid (rprop HS3.out HA3.out n); clear ro; clear bb K2 HB2 HS2 HA2 HO2 HI2 )) | (go_at_call 16; go_must (refine K3.out.mono ?_; rintro e w4 ⟨am, cm, rfl, ro, bb⟩; have HB4 := Lib.hid (stepB HB3.out bb); have HS4 := Lib.hid (HS3.out.below bb); have HA4 := Lib.hid (HA3.out.below bb); have HO4 := Lib.hid (HO3.out.below bb); have HI4 := Lib.hid (HI3.out.below bb); have HL4 := Lib.hid (HL3.out.below bb); have HM4 := Lib.hid (ro); have K4 := Lib.hid (ints_yes HL4.out HM4.out); clear ro; generalize propL n S A = l at *; generalize propOk n S A = ok at *; generalize propErr n S A = er at *; clear bb K3 HB3 HS3 HA3 HO3 HI3 HL3 )) | (go_at_call 17; (refine K4.out.mono ?_; rintro e w5 ⟨rfl, bb⟩; have HB5 := Lib.hid (stepB HB4.out bb); have HS5 := Lib.hid (HS4.out.below bb); have HA5 := Lib.hid (HA4.out.below bb); have HO5 := Lib.hid (HO4.out.below bb); have HI5 := Lib.hid (HI4.out.below bb); have K5 := Lib.hid (cls_yes HO5.out HS5.out); clear bb K4 HB4 HS4 HA4 HO4 HI4 HL4 HM4 )) | (go_at_call 18; go_must (refine K5.out.mono ?_; rintro e w6 ⟨rfl, bb⟩; have HB6 := Lib.hid (stepB HB5.out bb); have HA6 := Lib.hid (HA5.out.below bb); have HI6 := Lib.hid (HI5.out.below bb); have K6 := Lib.hid (ints_yes HI6.out HA6.out); clear bb K5 HB5 HS5 HA5 HO5 HI5 )) | (go_at_call 17; (refine K6.out.mono ?_; rintro e w7 ⟨rfl, bb⟩; have HB7 := Lib.hid (stepB HB6.out bb); have K7 := Lib.hid (awake_yes hs w7); clear bb K6 HB6 HA6 HI6 )) | (go_at_call 12; go_must (refine K7.out.mono ?_; rintro e w8 ⟨rfl, bb⟩; have HB8 := Lib.hid (stepB HB7.out bb); clear bb K7 HB7 )))
    go_ret
    exact ⟨ret_bool rfl, HB8.out⟩
  · have HK := Lib.hid (awake_yes hs w0)
    rw [ht] at HT
    clear h h2 ht HS0 HA0 hs
    go_enter Try.func3, Try.ntmps3
    go_wp2_with (first | (go_at_call 11; refine HT.out.mono ?_; rintro e wz ⟨rfl, rfl⟩; clear HT) | (go_at_call 12; refine HK.out.mono ?_; rintro e w1 ⟨rfl, bb⟩; have HB1 := Lib.hid bb; clear HK bb))
    go_ret
    exact ⟨ret_bool rfl, HB1.out⟩
end Go.Proofs.Ytjbdiobnlmhidaa
namespace Go.Proofs.Ytjbdiobnlmhidaa
open Go Go.RowKit

theorem srup {w : World} {B B2 : Nat → Prop} {v v2 : Value} {S : List (List Int)} {A : List Int} (h : RdSS w B v S) (h2 : RdS w B2 v2 (ints A)) (n : Int) (hr : ∀ c, c ∈ S → c.length ≤ 30) (hl : A.length ≤ 40) :
    Calls Try.prog 19 #[.int .i64 n, v, v2] w (BoolPost w (rupR n S A)) := sRup_calls h h2 n (fun c hc => by have := hr c hc; omega) (by omega)
theorem rrup {w : World} {B B2 : Nat → Prop} {v v2 : Value} {S : List (List Int)} {A : List Int} (h : RdSS w B v S) (h2 : RdS w B2 v2 (ints A)) (n : Int) (hl : A.length ≤ 40) :
    Calls Try.prog 20 #[.int .i64 n, v, v2] w (BoolPost w (rupR n S A)) := rRup_calls h h2 n (by omega)
theorem scheck {w : World} {B B2 : Nat → Prop} {v v2 : Value} {S P : List (List Int)} (h : RdSS w B v S) (h2 : RdSS w B2 v2 P) (n : Int) (hr : ∀ c, c ∈ S → c.length ≤ 30) (hl : P.length ≤ 40) (hr2 : ∀ c, c ∈ P → c.length ≤ 30) :
    Calls Try.prog 21 #[.int .i64 n, v, v2] w (BoolPost w (checkR n S P)) := sCheck_calls h h2 n (by omega) (fun c hc => by have := hr c hc; omega) (fun c hc => by have := hr2 c hc; omega)
theorem rcheck {w : World} {B B2 : Nat → Prop} {v v2 : Value} {S P : List (List Int)} (h : RdSS w B v S) (h2 : RdSS w B2 v2 P) (n : Int) (hl : P.length ≤ 40) (hr2 : ∀ c, c ∈ P → c.length ≤ 30) :
    Calls Try.prog 22 #[.int .i64 n, v, v2] w (BoolPost w (checkR n S P)) := rCheck_calls h h2 n (by omega) (fun c hc => by have := hr2 c hc; omega)

set_option maxHeartbeats 8000000 in
theorem law4_calls (hs : SolveOk) {w0 : World} {B B2 B3 : Nat → Prop} {v v2 v3 : Value} {S P : List (List Int)} {A : List Int} (h : RdSS w0 B v S) (h2 : RdS w0 B2 v2 (ints A)) (h3 : RdSS w0 B3 v3 P) (n : Int) :
    Calls Try.prog 4 #[.int .i64 n, v, v2, v3] w0 (Yes w0) := by
  have HT := Lib.hid (large_calls h h3 h2 n)
  obtain ⟨a1, c1, rfl, -⟩ := h.form
  obtain ⟨a2, c2, rfl, -⟩ := h2.form
  obtain ⟨a3, c3, rfl, -⟩ := h3.form
  rw [ints_length] at *
  have HS0 := Lib.hid h
  have HA0 := Lib.hid h2
  have HQ0 := Lib.hid h3
  rcases ht : tooB n S P A with _ | _
  · have hz := too_false ht
    have HC := Lib.hid (own_ss HS0.out hz.sl hz.sr)
    have HB0 := Lib.hid (Below.refl w0.heap.size w0)
    rw [ht] at HT
    clear h h2 h3 ht
    go_enter Try.func4, Try.ntmps4
    go_wp2_with (first | (go_at_call 11; refine HT.out.mono ?_; rintro e wz ⟨rfl, rfl⟩; clear HT) | (go_at_call 13; (refine HC.out.mono ?_; rintro e w1 ⟨ao, co, rfl, ro, bb⟩; have HB1 := Lib.hid (stepB HB0.out bb); have HS1 := Lib.hid (HS0.out.below bb); have HA1 := Lib.hid (HA0.out.below bb); have HQ1 := Lib.hid (HQ0.out.below bb); have HO1 := Lib.hid (ro); have K1 := Lib.hid (own_ss HQ1.out (by have := hz.pl; omega) hz.pr); clear ro; clear bb HC HB0 HS0 HA0 HQ0 )) | (go_at_call 13; (refine K1.out.mono ?_; rintro e w2 ⟨ap, cp, rfl, ro, bb⟩; have HB2 := Lib.hid (stepB HB1.out bb); have HS2 := Lib.hid (HS1.out.below bb); have HA2 := Lib.hid (HA1.out.below bb); have HQ2 := Lib.hid (HQ1.out.below bb); have HO2 := Lib.hid (HO1.out.below bb); have HP2 := Lib.hid (ro); have K2 := Lib.hid (own_s HA2.out hz.al); clear ro; clear bb K1 HB1 HS1 HA1 HQ1 HO1 )) | (go_at_call 14; go_must (refine K2.out.mono ?_; rintro e w3 ⟨ai, ci, rfl, ro, bb⟩; have HB3 := Lib.hid (stepB HB2.out bb); have HS3 := Lib.hid (HS2.out.below bb); have HA3 := Lib.hid (HA2.out.below bb); have HQ3 := Lib.hid (HQ2.out.below bb); have HO3 := Lib.hid (HO2.out.below bb); have HP3 := Lib.hid (HP2.out.below bb); have HI3 := Lib.hid (ro); have K3 := Lib.hid (srup HO3.out HI3.out n hz.sr hz.al); clear ro; clear bb K2 HB2 HS2 HA2 HQ2 HO2 HP2 )) | (go_at_call 19; go_must (refine K3.out.mono ?_; rintro e w4 ⟨rfl, bb⟩; have HB4 := Lib.hid (stepB HB3.out bb); have HS4 := Lib.hid (HS3.out.below bb); have HA4 := Lib.hid (HA3.out.below bb); have HQ4 := Lib.hid (HQ3.out.below bb); have HO4 := Lib.hid (HO3.out.below bb); have HP4 := Lib.hid (HP3.out.below bb); have K4 := Lib.hid (rrup HS4.out HA4.out n hz.al); clear bb K3 HB3 HS3 HA3 HQ3 HO3 HP3 HI3 )) | (go_at_call 20; go_must (refine K4.out.mono ?_; rintro e w5 ⟨rfl, bb⟩; have HB5 := Lib.hid (stepB HB4.out bb); have HS5 := Lib.hid (HS4.out.below bb); have HQ5 := Lib.hid (HQ4.out.below bb); have HO5 := Lib.hid (HO4.out.below bb); have HP5 := Lib.hid (HP4.out.below bb); have K5 := Lib.hid (scheck HO5.out HP5.out n hz.sr hz.pl hz.pr); generalize rupR n S A = r1 at *; clear bb K4 HB4 HS4 HA4 HQ4 HO4 HP4 )) | (go_at_call 21; go_must (refine K5.out.mono ?_; rintro e w6 ⟨rfl, bb⟩; have HB6 := Lib.hid (stepB HB5.out bb); have HS6 := Lib.hid (HS5.out.below bb); have HQ6 := Lib.hid (HQ5.out.below bb); have HO6 := Lib.hid (HO5.out.below bb); have HP6 := Lib.hid (HP5.out.below bb); have K6 := Lib.hid (rcheck HS6.out HQ6.out n hz.pl hz.pr); clear bb K5 HB5 HS5 HQ5 HO5 HP5 )) | (go_at_call 22; go_must (refine K6.out.mono ?_; rintro e w7 ⟨rfl, bb⟩; have HB7 := Lib.hid (stepB HB6.out bb); have HS7 := Lib.hid (HS6.out.below bb); have HQ7 := Lib.hid (HQ6.out.below bb); have HO7 := Lib.hid (HO6.out.below bb); have HP7 := Lib.hid (HP6.out.below bb); have K7 := Lib.hid (cls_yes HO7.out HS7.out); generalize checkR n S P = r2 at *; clear bb K6 HB6 HS6 HQ6 HO6 HP6 )) | (go_at_call 18; (refine K7.out.mono ?_; rintro e w8 ⟨rfl, bb⟩; have HB8 := Lib.hid (stepB HB7.out bb); have HQ8 := Lib.hid (HQ7.out.below bb); have HP8 := Lib.hid (HP7.out.below bb); have K8 := Lib.hid (cls_yes HP8.out HQ8.out); clear bb K7 HB7 HS7 HQ7 HO7 HP7 )) | (go_at_call 18; (refine K8.out.mono ?_; rintro e w9 ⟨rfl, bb⟩; have HB9 := Lib.hid (stepB HB8.out bb); have K9 := Lib.hid (awake_yes hs w9); clear bb K8 HB8 HQ8 HP8 )) | (go_at_call 12; go_must (refine K9.out.mono ?_; rintro e w10 ⟨rfl, bb⟩; have HB10 := Lib.hid (stepB HB9.out bb); clear bb K9 HB9 )))
    go_ret
    exact ⟨ret_bool rfl, HB10.out⟩
  · have HK := Lib.hid (awake_yes hs w0)
    rw [ht] at HT
    clear h h2 h3 ht HS0 HA0 HQ0 hs
    go_enter Try.func4, Try.ntmps4
    go_wp2_with (first | (go_at_call 11; refine HT.out.mono ?_; rintro e wz ⟨rfl, rfl⟩; clear HT) | (go_at_call 12; refine HK.out.mono ?_; rintro e w1 ⟨rfl, bb⟩; have HB1 := Lib.hid bb; clear HK bb))
    go_ret
    exact ⟨ret_bool rfl, HB1.out⟩
end Go.Proofs.Ytjbdiobnlmhidaa
namespace Go.Proofs.Ytjbdiobnlmhidaa
open Go Go.RowKit

/-- the answer of sat.Solve at an invalid problem -/
def BadPost (w : World) (e : Ending) (w' : World) : Prop := ∃ a1 c1 a2 c2 a3 c3, e = .returned (.tuple #[.agg #[.int .i64 0, .slice a1 0 c1, .slice a2 0 c2, .slice a3 0 c3], .int .i64 1]) ∧ Below w.heap.size w w'
/-- the answer at a valid problem -/
def GoodPost (n : Int) (S : List (List Int)) (A : List Int) (w : World) (e : Ending) (w' : World) : Prop :=
  (∃ a1 c1 a2 c2 a3 c3 vals, e = .returned (.tuple #[.agg #[.int .i64 1, .slice a1 (List.length vals) c1, .slice a2 0 c2, .slice a3 0 c3], .int .i64 0]) ∧ RdS w' (fun _ => True) (.slice a1 vals.length c1) (boos vals) ∧ (vals.length : Int) = n ∧ satB vals S A = true ∧ Below w.heap.size w w') ∨
  (∃ a1 c1 a2 c2 a3 c3 core P, e = .returned (.tuple #[.agg #[.int .i64 2, .slice a1 0 c1, .slice a2 (List.length core) c2, .slice a3 (List.length P) c3], .int .i64 0]) ∧ RdS w' (fun _ => True) (.slice a2 core.length c2) (ints core) ∧ RdSS w' (fun _ => True) (.slice a3 P.length c3) P ∧
    (chosenB core A = true ∧ provesB (unitsL S core) P = true ∧ clsB n P = true ∧ P.length ≤ 4782970 ∧ ∀ c, c ∈ P → c.length ≤ 100000000) ∧ Below w.heap.size w w')
theorem cls_one {n : Int} {A : List Int} : clsB n [A] = litsB n A := by simp [clsB]
theorem solve_bad (hs : SolveOk) {w : World} {B B2 : Nat → Prop} {v v2 : Value} {S : List (List Int)} {A : List Int} (h : RdSS w B v S) (h2 : RdS w B2 v2 (ints A)) (n : Int) (hn : n ≤ 14) (hr : ∀ c, c ∈ S → c.length ≤ 30) (hl : A.length ≤ 40) (hv : (validB n S && litsB n A) = false) :
    Calls Try.prog 23 #[.int .i64 n, v, v2] w (BadPost w) := by
  refine (hs.c h h2 n hn (fun c hc => by have := hr c hc; omega) (by omega)).mono ?_
  rintro e w' ⟨ans, er, va, vc, vp, vals, core, proof, rfl, r1, r2, r3, hb, hi, -⟩
  rw [cls_one] at hi
  obtain ⟨rfl, rfl, rfl, rfl, rfl⟩ := hi hv
  obtain ⟨a1, c1, rfl, -⟩ := r1.form
  obtain ⟨a2, c2, rfl, -⟩ := r2.form
  obtain ⟨a3, c3, rfl, -⟩ := r3.form
  exact ⟨_, _, _, _, _, _, rfl, hb⟩
theorem solve_good (hs : SolveOk) {w : World} {B B2 : Nat → Prop} {v v2 : Value} {S : List (List Int)} {A : List Int} (h : RdSS w B v S) (h2 : RdS w B2 v2 (ints A)) (n : Int) (hn : n ≤ 14) (hr : ∀ c, c ∈ S → c.length ≤ 30) (hl : A.length ≤ 40) (hv : (validB n S && litsB n A) = true) :
    Calls Try.prog 23 #[.int .i64 n, v, v2] w (GoodPost n S A w) := by
  refine (hs.c h h2 n hn (fun c hc => by have := hr c hc; omega) (by omega)).mono ?_
  rintro e w' ⟨ans, er, va, vc, vp, vals, core, proof, rfl, r1, r2, r3, hb, -, hi⟩
  rw [cls_one] at hi
  obtain ⟨a1, c1, rfl, -⟩ := r1.form
  obtain ⟨a2, c2, rfl, -⟩ := r2.form
  obtain ⟨a3, c3, rfl, -⟩ := r3.form
  rw [boos_length] at *
  rw [ints_length] at *
  obtain ⟨rfl, ⟨rfl, rfl, rfl, h1, h2⟩ | ⟨rfl, rfl, h1⟩⟩ := hi hv
  · exact .inl ⟨_, _, _, _, _, _, vals, rfl, r1, h1, h2, hb⟩
  · exact .inr ⟨_, _, _, _, _, _, core, proof, rfl, r2, r3, h1, hb⟩
theorem satis {w : World} {B B2 B3 : Nat → Prop} {v v2 v3 : Value} {S : List (List Int)} {A : List Int} {vals : List Bool} (h : RdSS w B v S) (h2 : RdS w B2 v2 (ints A)) (h3 : RdS w B3 v3 (boos vals)) {n : Int} (hn : (vals.length : Int) = n) (hv : (validB n S && litsB n A) = true) :
    Calls Try.prog 26 #[v, v2, v3] w (BoolPost w (satB vals S A)) := by
  rw [Bool.and_eq_true] at hv
  obtain ⟨m, rfl, h1, -, h4⟩ := valid_cases hv.1
  have hm : m = vals.length := by omega
  subst hm
  exact (satisfied_calls h h2 h3 (fun c hc x hx => litsL_of_B h4 c hc x hx) (fun x hx => lits_of_B hv.2 x hx) (by omega)).mono fun _ _ hp => hp
theorem chosen_yes {w : World} {B B2 : Nat → Prop} {v v2 : Value} {a b : List Int} (h : RdS w B v (ints a)) (h2 : RdS w B2 v2 (ints b)) (hc : chosenB a b = true) : Calls Try.prog 27 #[v, v2] w (Yes w) := by
  refine (chosen_calls h h2).mono ?_
  rintro e w' ⟨rfl, hs⟩
  rw [hc]
  exact ⟨rfl, hs.below _⟩
theorem units_ss {w : World} {B B2 : Nat → Prop} {v v2 : Value} {S : List (List Int)} {A : List Int} (h : RdSS w B v S) (h2 : RdS w B2 v2 (ints A)) (hl : S.length ≤ 1000) (hl2 : A.length ≤ 1000) : Calls Try.prog 28 #[v, v2] w (SSPost w (unitsL S A)) :=
  (units_calls h h2 (by omega) (by omega)).mono fun _ _ hp => ss_post hp
theorem chosen_lits {n : Int} {core A : List Int} (h : chosenB core A = true) (hA : litsB n A = true) : litsB n core = true := by
  refine List.all_eq_true.2 fun x hx => List.all_eq_true.1 hA x (chosen_sub h x hx)
theorem units_valid {n : Int} {S : List (List Int)} {l : List Int} (h : validB n S = true) (hl : litsB n l = true) (hs : S.length ≤ 1000) (hs2 : l.length ≤ 1000) : validB n (unitsL S l) = true := by
  simp only [validB, Bool.and_eq_true, decide_eq_true_eq] at h ⊢
  refine ⟨⟨h.1.1, by simp [unitsL]; omega⟩, ?_⟩
  unfold clsB unitsL
  rw [List.all_append, Bool.and_eq_true]
  refine ⟨h.2, List.all_eq_true.2 fun c hc => ?_⟩
  obtain ⟨x, hx, rfl⟩ := List.mem_map.1 hc
  have := List.all_eq_true.1 hl x hx
  simp [litsB, this]
theorem lits_same {w : World} {B : Nat → Prop} {v : Value} {A : List Int} (h : RdS w B v (ints A)) {n : Int} {S : List (List Int)} (hv : validB n S = true) : Calls Try.prog 25 #[.int .i64 n, v] w fun e w' => e = .returned (.bool (litsB n A)) ∧ w = w' := by
  obtain ⟨m, rfl, h1, -, -⟩ := valid_cases hv
  exact Literals_calls h m (by omega) (by omega)

set_option maxHeartbeats 8000000 in
theorem law5_large (hs : SolveOk) {w0 : World} {B B2 : Nat → Prop} {v v2 : Value} {S : List (List Int)} {A : List Int} (h : RdSS w0 B v S) (h2 : RdS w0 B2 v2 (ints A)) (n : Int) (ht : 14 < n ∨ tooB n S [] A = true) :
    Calls Try.prog 5 #[.int .i64 n, v, v2] w0 (Yes w0) := by
  have HT := Lib.hid (large_calls h (v2 := .slice none 0 0) (pp := []) (B2 := fun _ => True) ⟨[], .inl ⟨⟨_, rfl⟩, rfl⟩, rfl, nofun⟩ h2 n)
  obtain ⟨a1, c1, rfl, -⟩ := h.form
  obtain ⟨a2, c2, rfl, -⟩ := h2.form
  rw [ints_length] at *
  have HS0 := Lib.hid h
  have HA0 := Lib.hid h2
  have HB0 := Lib.hid (Below.refl w0.heap.size w0)
  clear h h2
  have HK := Lib.hid (awake_yes hs w0)
  clear HS0 HA0 hs HB0
  rcases ht with ht | ht
  · clear HT
    go_enter Try.func5, Try.ntmps5
    go_wp2_with (go_at_call 12; go_must (refine HK.out.mono ?_; rintro e w1 ⟨rfl, bb⟩; have HB1 := Lib.hid bb; clear HK bb))
    go_ret
    exact ⟨ret_bool rfl, HB1.out⟩
  · rw [ht] at HT
    clear ht
    by_cases hn : 14 < n
    · clear HT
      go_enter Try.func5, Try.ntmps5
      go_wp2_with (go_at_call 12; go_must (refine HK.out.mono ?_; rintro e w1 ⟨rfl, bb⟩; have HB1 := Lib.hid bb; clear HK bb))
      go_ret
      exact ⟨ret_bool rfl, HB1.out⟩
    · go_enter Try.func5, Try.ntmps5
      go_wp2_with (first | (go_at_call 11; go_must (refine HT.out.mono ?_; rintro e wz ⟨rfl, rfl⟩; clear HT)) | (go_at_call 12; go_must (refine HK.out.mono ?_; rintro e w1 ⟨rfl, bb⟩; have HB1 := Lib.hid bb; clear HK bb)))
      go_ret
      exact ⟨ret_bool rfl, HB1.out⟩

set_option maxHeartbeats 8000000 in
theorem law5_bad1 (hs : SolveOk) {w0 : World} {B B2 : Nat → Prop} {v v2 : Value} {S : List (List Int)} {A : List Int} (h : RdSS w0 B v S) (h2 : RdS w0 B2 v2 (ints A)) (n : Int) (hn14 : n ≤ 14) (ht : tooB n S [] A = false) (hv1 : validB n S = false) :
    Calls Try.prog 5 #[.int .i64 n, v, v2] w0 (Yes w0) := by
  have HT := Lib.hid (large_calls h (v2 := .slice none 0 0) (pp := []) (B2 := fun _ => True) ⟨[], .inl ⟨⟨_, rfl⟩, rfl⟩, rfl, nofun⟩ h2 n)
  obtain ⟨a1, c1, rfl, -⟩ := h.form
  obtain ⟨a2, c2, rfl, -⟩ := h2.form
  rw [ints_length] at *
  have HS0 := Lib.hid h
  have HA0 := Lib.hid h2
  have HB0 := Lib.hid (Below.refl w0.heap.size w0)
  clear h h2
  have hz := too_false ht
  have hv : (validB n S && litsB n A) = false := by rw [hv1]; rfl
  have HC := Lib.hid (own_ss HS0.out hz.sl hz.sr)
  rw [ht] at HT
  clear ht
  have hn : ¬ 14 < n := by omega
  clear hn14
  go_enter Try.func5, Try.ntmps5
  go_wp2_with (first | (go_at_call 11; go_must (refine HT.out.mono ?_; rintro e wz ⟨rfl, rfl⟩; clear HT)) | (go_at_call 13; go_must (refine HC.out.mono ?_; rintro e w1 ⟨ao, co, rfl, ro, bb⟩; have HB1 := Lib.hid (stepB HB0.out bb); have HS1 := Lib.hid (HS0.out.below bb); have HA1 := Lib.hid (HA0.out.below bb); have HO1 := Lib.hid (ro); have K1 := Lib.hid (own_s HA1.out hz.al); clear ro; clear bb HC HB0 HS0 HA0 )) | (go_at_call 14; go_must (refine K1.out.mono ?_; rintro e w2 ⟨ai, ci, rfl, ro, bb⟩; have HB2 := Lib.hid (stepB HB1.out bb); have HS2 := Lib.hid (HS1.out.below bb); have HA2 := Lib.hid (HA1.out.below bb); have HO2 := Lib.hid (HO1.out.below bb); have HI2 := Lib.hid (ro); have K2 := Lib.hid (solve_bad hs HO2.out HI2.out n (by omega) hz.sr hz.al hv); clear ro; clear bb K1 HB1 HS1 HA1 HO1 )) | (go_at_call 23; go_must (refine K2.out.mono ?_; rintro e w3 ⟨d1, k1, d2, k2, d3, k3, rfl, bb⟩; have ba := al w3 (.cells #[.int .i64 0, .slice d1 0 k1, .slice d2 0 k2, .slice d3 0 k3] 38); have bb := stepB bb ba; have HG3 := Lib.hid (heap_new w3 (.cells #[.int .i64 0, .slice d1 0 k1, .slice d2 0 k2, .slice d3 0 k3] 38)); have HB3 := Lib.hid (stepB HB2.out bb); have HS3 := Lib.hid (HS2.out.below bb); have HA3 := Lib.hid (HA2.out.below bb); have HO3 := Lib.hid (HO2.out.below bb); have HI3 := Lib.hid (HI2.out.below bb); have K3 := Lib.hid (cls_yes HO3.out HS3.out); clear bb ba K2 HB2 HS2 HA2 HO2 HI2 )) | (go_at_call 18; go_must (refine K3.out.mono ?_; rintro e w4 ⟨rfl, bb⟩; have HB4 := Lib.hid (stepB HB3.out bb); have HS4 := Lib.hid (HS3.out.below bb); have HA4 := Lib.hid (HA3.out.below bb); have HI4 := Lib.hid (HI3.out.below bb); have HG4 := Lib.hid (heap_keep HG3.out bb); have K4 := Lib.hid (ints_yes HI4.out HA4.out); clear bb K3 HB3 HS3 HA3 HO3 HI3 HG3 )) | (go_at_call 17; go_must (refine K4.out.mono ?_; rintro e w5 ⟨rfl, bb⟩; have HB5 := Lib.hid (stepB HB4.out bb); have HS5 := Lib.hid (HS4.out.below bb); have HA5 := Lib.hid (HA4.out.below bb); have HG5 := Lib.hid (heap_keep HG4.out bb); have K5 := Lib.hid (Clauses_calls HS5.out n); have K7 := Lib.hid (awake_yes hs w5); obtain ⟨f0, f1, f2, f3⟩ := box_cell HG5.out; rw [hv1] at K5; clear bb K4 HB4 HS4 HA4 HI4 HG4 )) | (go_at_call 24; go_must (refine K5.out.mono ?_; rintro e wz ⟨rfl, rfl⟩; clear K5)) | (go_at_call 25; go_must (refine K6.out.mono ?_; rintro e wz ⟨rfl, rfl⟩; clear K6)) | (go_at_call 12; go_must (refine K7.out.mono ?_; rintro e w6 ⟨rfl, bb⟩; have HB6 := Lib.hid (stepB HB5.out bb); have HS6 := Lib.hid (HS5.out.below bb); have HA6 := Lib.hid (HA5.out.below bb); have HG6 := Lib.hid (heap_keep HG5.out bb); clear bb K7 HB5 HS5 HA5 HG5 )))
  go_ret
  exact ⟨ret_bool rfl, HB6.out⟩

set_option maxHeartbeats 8000000 in
theorem law5_bad2 (hs : SolveOk) {w0 : World} {B B2 : Nat → Prop} {v v2 : Value} {S : List (List Int)} {A : List Int} (h : RdSS w0 B v S) (h2 : RdS w0 B2 v2 (ints A)) (n : Int) (hn14 : n ≤ 14) (ht : tooB n S [] A = false) (hv1 : validB n S = true) (hv2 : litsB n A = false) :
    Calls Try.prog 5 #[.int .i64 n, v, v2] w0 (Yes w0) := by
  have HT := Lib.hid (large_calls h (v2 := .slice none 0 0) (pp := []) (B2 := fun _ => True) ⟨[], .inl ⟨⟨_, rfl⟩, rfl⟩, rfl, nofun⟩ h2 n)
  obtain ⟨a1, c1, rfl, -⟩ := h.form
  obtain ⟨a2, c2, rfl, -⟩ := h2.form
  rw [ints_length] at *
  have HS0 := Lib.hid h
  have HA0 := Lib.hid h2
  have HB0 := Lib.hid (Below.refl w0.heap.size w0)
  clear h h2
  have hz := too_false ht
  have hv : (validB n S && litsB n A) = false := by rw [hv1, hv2]; rfl
  have HC := Lib.hid (own_ss HS0.out hz.sl hz.sr)
  rw [ht] at HT
  clear ht
  have hn : ¬ 14 < n := by omega
  clear hn14
  go_enter Try.func5, Try.ntmps5
  go_wp2_with (first | (go_at_call 11; go_must (refine HT.out.mono ?_; rintro e wz ⟨rfl, rfl⟩; clear HT)) | (go_at_call 13; go_must (refine HC.out.mono ?_; rintro e w1 ⟨ao, co, rfl, ro, bb⟩; have HB1 := Lib.hid (stepB HB0.out bb); have HS1 := Lib.hid (HS0.out.below bb); have HA1 := Lib.hid (HA0.out.below bb); have HO1 := Lib.hid (ro); have K1 := Lib.hid (own_s HA1.out hz.al); clear ro; clear bb HC HB0 HS0 HA0 )) | (go_at_call 14; go_must (refine K1.out.mono ?_; rintro e w2 ⟨ai, ci, rfl, ro, bb⟩; have HB2 := Lib.hid (stepB HB1.out bb); have HS2 := Lib.hid (HS1.out.below bb); have HA2 := Lib.hid (HA1.out.below bb); have HO2 := Lib.hid (HO1.out.below bb); have HI2 := Lib.hid (ro); have K2 := Lib.hid (solve_bad hs HO2.out HI2.out n (by omega) hz.sr hz.al hv); clear ro; clear bb K1 HB1 HS1 HA1 HO1 )) | (go_at_call 23; go_must (refine K2.out.mono ?_; rintro e w3 ⟨d1, k1, d2, k2, d3, k3, rfl, bb⟩; have ba := al w3 (.cells #[.int .i64 0, .slice d1 0 k1, .slice d2 0 k2, .slice d3 0 k3] 38); have bb := stepB bb ba; have HG3 := Lib.hid (heap_new w3 (.cells #[.int .i64 0, .slice d1 0 k1, .slice d2 0 k2, .slice d3 0 k3] 38)); have HB3 := Lib.hid (stepB HB2.out bb); have HS3 := Lib.hid (HS2.out.below bb); have HA3 := Lib.hid (HA2.out.below bb); have HO3 := Lib.hid (HO2.out.below bb); have HI3 := Lib.hid (HI2.out.below bb); have K3 := Lib.hid (cls_yes HO3.out HS3.out); clear bb ba K2 HB2 HS2 HA2 HO2 HI2 )) | (go_at_call 18; go_must (refine K3.out.mono ?_; rintro e w4 ⟨rfl, bb⟩; have HB4 := Lib.hid (stepB HB3.out bb); have HS4 := Lib.hid (HS3.out.below bb); have HA4 := Lib.hid (HA3.out.below bb); have HI4 := Lib.hid (HI3.out.below bb); have HG4 := Lib.hid (heap_keep HG3.out bb); have K4 := Lib.hid (ints_yes HI4.out HA4.out); clear bb K3 HB3 HS3 HA3 HO3 HI3 HG3 )) | (go_at_call 17; go_must (refine K4.out.mono ?_; rintro e w5 ⟨rfl, bb⟩; have HB5 := Lib.hid (stepB HB4.out bb); have HS5 := Lib.hid (HS4.out.below bb); have HA5 := Lib.hid (HA4.out.below bb); have HG5 := Lib.hid (heap_keep HG4.out bb); have K5 := Lib.hid (Clauses_calls HS5.out n); have K7 := Lib.hid (awake_yes hs w5); obtain ⟨f0, f1, f2, f3⟩ := box_cell HG5.out; rw [hv1] at K5; have K6 := Lib.hid (lits_same HA5.out hv1); rw [hv2] at K6; clear bb K4 HB4 HS4 HA4 HI4 HG4 )) | (go_at_call 24; go_must (refine K5.out.mono ?_; rintro e wz ⟨rfl, rfl⟩; clear K5)) | (go_at_call 25; go_must (refine K6.out.mono ?_; rintro e wz ⟨rfl, rfl⟩; clear K6)) | (go_at_call 12; go_must (refine K7.out.mono ?_; rintro e w6 ⟨rfl, bb⟩; have HB6 := Lib.hid (stepB HB5.out bb); have HS6 := Lib.hid (HS5.out.below bb); have HA6 := Lib.hid (HA5.out.below bb); have HG6 := Lib.hid (heap_keep HG5.out bb); clear bb K7 HB5 HS5 HA5 HG5 )))
  go_ret
  exact ⟨ret_bool rfl, HB6.out⟩
end Go.Proofs.Ytjbdiobnlmhidaa
namespace Go.Proofs.Ytjbdiobnlmhidaa
open Go Go.RowKit

theorem check_yes {w : World} {B B2 : Nat → Prop} {v v2 : Value} {S P : List (List Int)} {core A : List Int} (h : RdSS w B v (unitsL S core)) (h2 : RdSS w B2 v2 P) (n : Int)
    (hp : chosenB core A = true ∧ provesB (unitsL S core) P = true ∧ clsB n P = true ∧ P.length ≤ 4782970 ∧ ∀ c, c ∈ P → c.length ≤ 100000000) (hv : validB n (unitsL S core) = true) :
    Calls Try.prog 22 #[.int .i64 n, v, v2] w (Yes w) := by
  have h := rCheck_calls h h2 n (by omega) (fun c hc => Nat.le_trans (hp.2.2.2.2 c hc) (by decide))
  have e : checkR n (unitsL S core) P = true := by unfold checkR; rw [hv, hp.2.1, hp.2.2.1]; rfl
  rw [e] at h
  exact h

set_option maxHeartbeats 8000000 in
theorem law5_good (hs : SolveOk) {w0 : World} {B B2 : Nat → Prop} {v v2 : Value} {S : List (List Int)} {A : List Int} (h : RdSS w0 B v S) (h2 : RdS w0 B2 v2 (ints A)) (n : Int) (hn14 : n ≤ 14) (ht : tooB n S [] A = false) (hv1 : validB n S = true) (hv2 : litsB n A = true) :
    Calls Try.prog 5 #[.int .i64 n, v, v2] w0 (Yes w0) := by
  have HT := Lib.hid (large_calls h (v2 := .slice none 0 0) (pp := []) (B2 := fun _ => True) ⟨[], .inl ⟨⟨_, rfl⟩, rfl⟩, rfl, nofun⟩ h2 n)
  obtain ⟨a1, c1, rfl, -⟩ := h.form
  obtain ⟨a2, c2, rfl, -⟩ := h2.form
  rw [ints_length] at *
  have HS0 := Lib.hid h
  have HA0 := Lib.hid h2
  have HB0 := Lib.hid (Below.refl w0.heap.size w0)
  clear h h2
  have hz := too_false ht
  have hv : (validB n S && litsB n A) = true := by rw [hv1, hv2]; rfl
  have HC := Lib.hid (own_ss HS0.out hz.sl hz.sr)
  rw [ht] at HT
  clear ht
  have hn : ¬ 14 < n := by omega
  clear hn14
  go_enter Try.func5, Try.ntmps5
  go_wp2_with (first | (go_at_call 11; go_must (refine HT.out.mono ?_; rintro e wz ⟨rfl, rfl⟩; clear HT)) | (go_at_call 13; go_must (refine HC.out.mono ?_; rintro e w1 ⟨ao, co, rfl, ro, bb⟩; have HB1 := Lib.hid (stepB HB0.out bb); have HS1 := Lib.hid (HS0.out.below bb); have HA1 := Lib.hid (HA0.out.below bb); have HO1 := Lib.hid (ro); have K1 := Lib.hid (own_s HA1.out hz.al); clear ro; clear bb HC HB0 HS0 HA0 )) | (go_at_call 14; go_must (refine K1.out.mono ?_; rintro e w2 ⟨ai, ci, rfl, ro, bb⟩; have HB2 := Lib.hid (stepB HB1.out bb); have HS2 := Lib.hid (HS1.out.below bb); have HA2 := Lib.hid (HA1.out.below bb); have HO2 := Lib.hid (HO1.out.below bb); have HI2 := Lib.hid (ro); have K2 := Lib.hid (solve_good hs HO2.out HI2.out n (by omega) hz.sr hz.al hv); clear ro; clear bb K1 HB1 HS1 HA1 HO1 )) | (go_at_call 23; go_must (refine K2.out.mono ?_; rintro e w3 (⟨d1, k1, d2, k2, d3, k3, vals, rfl, rv, hvl, hvs, bb⟩ | ⟨d1, k1, d2, k2, d3, k3, core, P, rfl, rc, rp, hvp, bb⟩); (have ba := al w3 (.cells #[.int .i64 1, .slice d1 vals.length k1, .slice d2 0 k2, .slice d3 0 k3] 38); have bb := stepB bb ba; have HG3 := Lib.hid (heap_new w3 (.cells #[.int .i64 1, .slice d1 vals.length k1, .slice d2 0 k2, .slice d3 0 k3] 38)); have HB3 := Lib.hid (stepB HB2.out bb); have HS3 := Lib.hid (HS2.out.below bb); have HA3 := Lib.hid (HA2.out.below bb); have HO3 := Lib.hid (HO2.out.below bb); have HI3 := Lib.hid (HI2.out.below bb); have HV3 := Lib.hid (rv.below ba); have K3 := Lib.hid (cls_yes HO3.out HS3.out); have hlen : ((vals.length : Int) == n) = true := (by simp [hvl]); have HVL := Lib.hid (And.intro hvl hvs); clear rv hvl hvs; clear bb ba K2 HB2 HS2 HA2 HO2 HI2 ); rotate_left; (have ba := al w3 (.cells #[.int .i64 2, .slice d1 0 k1, .slice d2 core.length k2, .slice d3 P.length k3] 38); have bb := stepB bb ba; have HG3 := Lib.hid (heap_new w3 (.cells #[.int .i64 2, .slice d1 0 k1, .slice d2 core.length k2, .slice d3 P.length k3] 38)); have HB3 := Lib.hid (stepB HB2.out bb); have HS3 := Lib.hid (HS2.out.below bb); have HA3 := Lib.hid (HA2.out.below bb); have HO3 := Lib.hid (HO2.out.below bb); have HI3 := Lib.hid (HI2.out.below bb); have HR3 := Lib.hid (rc.below ba); have HP3 := Lib.hid (rp.below ba); have K3 := Lib.hid (cls_yes HO3.out HS3.out); have HVP := Lib.hid hvp; clear rc rp hvp; clear bb ba K2 HB2 HS2 HA2 HO2 HI2 ); rotate_right)) | (go_at_call 18; (refine K3.out.mono ?_; rintro e w4 ⟨rfl, bb⟩; have HB4 := Lib.hid (stepB HB3.out bb); have HS4 := Lib.hid (HS3.out.below bb); have HA4 := Lib.hid (HA3.out.below bb); have HI4 := Lib.hid (HI3.out.below bb); have HV4 := Lib.hid (HV3.out.below bb); have HG4 := Lib.hid (heap_keep HG3.out bb); have K4 := Lib.hid (ints_yes HI4.out HA4.out); clear bb K3 HB3 HS3 HA3 HO3 HI3 HV3 HG3 )) | (go_at_call 17; (refine K4.out.mono ?_; rintro e w5 ⟨rfl, bb⟩; have HB5 := Lib.hid (stepB HB4.out bb); have HS5 := Lib.hid (HS4.out.below bb); have HA5 := Lib.hid (HA4.out.below bb); have HV5 := Lib.hid (HV4.out.below bb); have HG5 := Lib.hid (heap_keep HG4.out bb); have K5 := Lib.hid (Clauses_calls HS5.out n); have K6 := Lib.hid (lits_same HA5.out hv1); have K8 := Lib.hid (satis HS5.out HA5.out HV5.out HVL.out.1 hv); obtain ⟨f0, f1, f2, f3⟩ := box_cell HG5.out; rw [hv1] at K5; rw [hv2] at K6; rw [HVL.out.2] at K8; clear bb K4 HB4 HS4 HA4 HI4 HV4 HG4 )) | (go_at_call 24; go_must (refine K5.out.mono ?_; rintro e wz ⟨rfl, rfl⟩; clear K5)) | (go_at_call 25; go_must (refine K6.out.mono ?_; rintro e wz ⟨rfl, rfl⟩; clear K6)) | (go_at_call 26; go_must (refine K8.out.mono ?_; rintro e w6 ⟨rfl, bb⟩; have HB6 := Lib.hid (stepB HB5.out bb); have HS6 := Lib.hid (HS5.out.below bb); have HA6 := Lib.hid (HA5.out.below bb); have HV6 := Lib.hid (HV5.out.below bb); have HG6 := Lib.hid (heap_keep HG5.out bb); have K9 := Lib.hid (awake_yes hs w6); clear bb K8 HB5 HS5 HA5 HV5 HG5 f0 f1 f2 f3)) | (go_at_call 12; go_must (refine K9.out.mono ?_; rintro e w7 ⟨rfl, bb⟩; have HB7 := Lib.hid (stepB HB6.out bb); have HS7 := Lib.hid (HS6.out.below bb); have HA7 := Lib.hid (HA6.out.below bb); have HV7 := Lib.hid (HV6.out.below bb); have HG7 := Lib.hid (heap_keep HG6.out bb); clear bb K9 HB6 HS6 HA6 HV6 HG6 )) | (go_at_call 18; (refine K3.out.mono ?_; rintro e w4 ⟨rfl, bb⟩; have HB4 := Lib.hid (stepB HB3.out bb); have HS4 := Lib.hid (HS3.out.below bb); have HA4 := Lib.hid (HA3.out.below bb); have HI4 := Lib.hid (HI3.out.below bb); have HR4 := Lib.hid (HR3.out.below bb); have HP4 := Lib.hid (HP3.out.below bb); have HG4 := Lib.hid (heap_keep HG3.out bb); have K4 := Lib.hid (ints_yes HI4.out HA4.out); clear bb K3 HB3 HS3 HA3 HO3 HI3 HR3 HP3 HG3 )) | (go_at_call 17; (refine K4.out.mono ?_; rintro e w5 ⟨rfl, bb⟩; have HB5 := Lib.hid (stepB HB4.out bb); have HS5 := Lib.hid (HS4.out.below bb); have HA5 := Lib.hid (HA4.out.below bb); have HR5 := Lib.hid (HR4.out.below bb); have HP5 := Lib.hid (HP4.out.below bb); have HG5 := Lib.hid (heap_keep HG4.out bb); have K5 := Lib.hid (Clauses_calls HS5.out n); have K6 := Lib.hid (lits_same HA5.out hv1); have K8 := Lib.hid (chosen_yes HR5.out HA5.out HVP.out.1); obtain ⟨f0, f1, f2, f3⟩ := box_cell HG5.out; rw [hv1] at K5; rw [hv2] at K6; clear bb K4 HB4 HS4 HA4 HI4 HR4 HP4 HG4 )))
  · go_ret
    exact ⟨ret_bool rfl, HB7.out⟩
  clear f0 f1 f2 f3 K8
  have bb : Below w5.heap.size w5 w5.drew := (Same.refl w5).drew.below _
  have HB6 := Lib.hid (stepB HB5.out bb)
  have HS6 := Lib.hid (HS5.out.below bb)
  have HA6 := Lib.hid (HA5.out.below bb)
  have HR6 := Lib.hid (HR5.out.below bb)
  have HP6 := Lib.hid (HP5.out.below bb)
  have HG6 := Lib.hid (heap_keep HG5.out bb)
  have K8 := Lib.hid (chosen_yes HR6.out HA6.out HVP.out.1)
  clear bb HB5 HS5 HA5 HR5 HP5
  refine wp_region_seq (fun w' => w'.cell? ⟨w3.heap.size, 0, none⟩ = some (.int .i64 2) ∧ w'.cell? ⟨w3.heap.size, 1, none⟩ = some (.slice d1 0 k1) ∧ w'.cell? ⟨w3.heap.size, 2, none⟩ = some (.slice d2 core.length k2) ∧ w'.cell? ⟨w3.heap.size, 3, none⟩ = some (.slice d3 P.length k3)) []
    [(0, 2), (1, 1), (2, 2), (3, 2), (4, 2), (5, 1), (6, 2), (7, 2), (8, 2), (9, 2), (10, 2), (11, 1), (12, 2), (13, 0), (14, 2), (15, 2), (16, 2), (17, 2), (18, 1), (19, 0), (20, 2), (21, 2), (22, 2), (23, 2), (24, 2), (25, 1), (27, 2), (28, 1), (26, 0), (29, 0), (30, 2), (31, 2), (32, 0), (33, 2), (34, 2)]
    (by kernel_rfl) (by kernel_rfl) (fun c a d v w h => by cases d <;> exact h) (by kernel_rfl) (box_cell HG5.out) ?_
  clear HG5
  repeat
    first
      | refine wpSeqN_quiet (v := ?_) rfl (Or.inl ⟨rfl, ?_⟩) ?_
      | refine wpSeqN_pure (v := ?_) rfl (Or.inl ⟨rfl, ?_⟩) ?_
    rotate_left
    focus (intro w hSw; (try dsimp only at hSw); first | (go_simp; done) | (go_simp; with_reducible rfl))
    simp only [Act.put, List.setIfInBounds_toArray, List.set_cons_zero, List.set_cons_succ]
  refine wpSeqN_loud rfl (fun K hK => ?_)
  go_simp
  refine K8.out.mono ?_
  rintro e wn ⟨rfl, bb⟩
  have HB7 := Lib.hid (stepB HB6.out bb)
  have HS7 := Lib.hid (HS6.out.below bb)
  have HR7 := Lib.hid (HR6.out.below bb)
  have HP7 := Lib.hid (HP6.out.below bb)
  have HG7 := Lib.hid (heap_keep HG6.out bb)
  have K10 := Lib.hid (lits_same HR7.out hv1)
  rw [chosen_lits HVP.out.1 hv2] at K10
  refine hK.out _ _ (fun _ => box_cell HG7.out) ?_
  clear hK K bb K8 HB6 HS6 HR6 HP6 HG6
  try simp only [Act.put, List.setIfInBounds_toArray, List.set_cons_zero, List.set_cons_succ]
  repeat
    first
      | refine wpSeqN_quiet (v := ?_) rfl (Or.inl ⟨rfl, ?_⟩) ?_
      | refine wpSeqN_pure (v := ?_) rfl (Or.inl ⟨rfl, ?_⟩) ?_
    rotate_left
    focus (intro w hSw; (try dsimp only at hSw); first | (go_simp; done) | (go_simp; with_reducible rfl))
    simp only [Act.put, List.setIfInBounds_toArray, List.set_cons_zero, List.set_cons_succ]
  refine wpSeqN_loud rfl (fun K hK => ?_)
  go_simp
  refine K10.out.mono ?_
  rintro e wn ⟨rfl, rfl⟩
  have K11 := Lib.hid (units_ss HS7.out HR7.out (by have := hz.sl; omega) (by have := chosen_len HVP.out.1; have := hz.al; omega))
  refine hK.out _ _ (fun _ => box_cell HG7.out) ?_
  clear hK K K10
  try simp only [Act.put, List.setIfInBounds_toArray, List.set_cons_zero, List.set_cons_succ]
  repeat
    first
      | refine wpSeqN_quiet (v := ?_) rfl (Or.inl ⟨rfl, ?_⟩) ?_
      | refine wpSeqN_pure (v := ?_) rfl (Or.inl ⟨rfl, ?_⟩) ?_
    rotate_left
    focus (intro w hSw; (try dsimp only at hSw); first | (go_simp; done) | (go_simp; with_reducible rfl))
    simp only [Act.put, List.setIfInBounds_toArray, List.set_cons_zero, List.set_cons_succ]
  refine wpSeqN_loud rfl (fun K hK => ?_)
  go_simp
  refine K11.out.mono ?_
  rintro e wn ⟨au, cu, rfl, ru, bb⟩
  have HB8 := Lib.hid (stepB HB7.out bb)
  have HP8 := Lib.hid (HP7.out.below bb)
  have HG8 := Lib.hid (heap_keep HG7.out bb)
  have HU8 := Lib.hid ru
  have K12 := Lib.hid (check_yes HU8.out HP8.out n HVP.out (units_valid hv1 (chosen_lits HVP.out.1 hv2) (by have := hz.sl; omega) (by have := chosen_len HVP.out.1; have := hz.al; omega)))
  refine hK.out _ _ (fun _ => box_cell HG8.out) ?_
  clear hK K bb ru K11 HB7 HP7 HG7 HS7 HR7
  try simp only [Act.put, List.setIfInBounds_toArray, List.set_cons_zero, List.set_cons_succ]
  repeat
    first
      | refine wpSeqN_quiet (v := ?_) rfl (Or.inl ⟨rfl, ?_⟩) ?_
      | refine wpSeqN_pure (v := ?_) rfl (Or.inl ⟨rfl, ?_⟩) ?_
    rotate_left
    focus (intro w hSw; (try dsimp only at hSw); first | (go_simp; done) | (go_simp; with_reducible rfl))
    simp only [Act.put, List.setIfInBounds_toArray, List.set_cons_zero, List.set_cons_succ]
  refine wpSeqN_loud rfl (fun K hK => ?_)
  go_simp
  refine K12.out.mono ?_
  rintro e wn ⟨rfl, bb⟩
  have HB9 := Lib.hid (stepB HB8.out bb)
  have HG9 := Lib.hid (heap_keep HG8.out bb)
  have K13 := Lib.hid (awake_yes hs wn)
  refine hK.out _ _ (fun _ => box_cell HG9.out) ?_
  clear hK K bb K12 HB8 HG8 HU8 HP8
  try simp only [Act.put, List.setIfInBounds_toArray, List.set_cons_zero, List.set_cons_succ]
  repeat
    first
      | refine wpSeqN_quiet (v := ?_) rfl (Or.inl ⟨rfl, ?_⟩) ?_
      | refine wpSeqN_pure (v := ?_) rfl (Or.inl ⟨rfl, ?_⟩) ?_
    rotate_left
    focus (intro w hSw; (try dsimp only at hSw); first | (go_simp; done) | (go_simp; with_reducible rfl))
    simp only [Act.put, List.setIfInBounds_toArray, List.set_cons_zero, List.set_cons_succ]
  refine wpSeqN_loud rfl (fun K hK => ?_)
  go_simp
  refine K13.out.mono ?_
  rintro e wn ⟨rfl, bb⟩
  have HB10 := Lib.hid (stepB HB9.out bb)
  have HG10 := Lib.hid (heap_keep HG9.out bb)
  refine hK.out _ _ (fun _ => box_cell HG10.out) ?_
  clear hK K bb K13 HB9 HG9
  try simp only [Act.put, List.setIfInBounds_toArray, List.set_cons_zero, List.set_cons_succ]
  repeat
    first
      | refine wpSeqN_quiet (v := ?_) rfl (Or.inl ⟨rfl, ?_⟩) ?_
      | refine wpSeqN_pure (v := ?_) rfl (Or.inl ⟨rfl, ?_⟩) ?_
    rotate_left
    focus (intro w hSw; (try dsimp only at hSw); first | (go_simp; done) | (go_simp; with_reducible rfl))
    simp only [Act.put, List.setIfInBounds_toArray, List.set_cons_zero, List.set_cons_succ]
  refine wpSeqN_nil ?_
  go_wp2
  go_ret
  exact ⟨ret_bool rfl, HB10.out⟩

theorem law5_calls (hs : SolveOk) {w0 : World} {B B2 : Nat → Prop} {v v2 : Value} {S : List (List Int)} {A : List Int} (h : RdSS w0 B v S) (h2 : RdS w0 B2 v2 (ints A)) (n : Int) :
    Calls Try.prog 5 #[.int .i64 n, v, v2] w0 (Yes w0) := by
  by_cases hn : 14 < n
  · exact law5_large hs h h2 n (.inl hn)
  · have hn : n ≤ 14 := by omega
    rcases ht : tooB n S [] A with _ | _
    · rcases hv1 : validB n S with _ | _
      · exact law5_bad1 hs h h2 n hn ht hv1
      · rcases hv2 : litsB n A with _ | _
        · exact law5_bad2 hs h h2 n hn ht hv1 hv2
        · exact law5_good hs h h2 n hn ht hv1 hv2
    · exact law5_large hs h h2 n (.inr ht)
end Go.Proofs.Ytjbdiobnlmhidaa
