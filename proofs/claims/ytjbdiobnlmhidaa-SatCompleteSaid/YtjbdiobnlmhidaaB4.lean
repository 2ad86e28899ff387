/- Proved here: the law of the search. Conditions: those that each theorem states. -/
import Derived.Test.YtjbdiobnlmhidaaB2
import Derived.Test.YtjbdiobnlmhidaaA9
import Derived.Test.YtjbdiobnlmhidaaA5
set_option linter.unusedVariables false
set_option linter.unusedSimpArgs false
namespace Go.Proofs.Ytjbdiobnlmhidaa

theorem levAll_get : ∀ (t lev : List Int) (x : Int) (v : Nat), (∀ l, l ∈ t → l.natAbs < lev.length) → (levAll lev t x).getD v 0 = if (∃ l, l ∈ t ∧ l.natAbs = v) then x else lev.getD v 0 := by
  intro t
  induction t with
  | nil => intro lev x v _; simp [levAll]
  | cons l r ih =>
    intro lev x v h
    show (levAll (lev.set l.natAbs x) r x).getD v 0 = _
    rw [ih _ _ _ (fun m hm => by rw [List.length_set]; exact h m (by simp [hm])), getD_set]
    have hl := h l (by simp)
    by_cases e : ∃ m, m ∈ r ∧ m.natAbs = v
    · rw [if_pos e, if_pos (e.imp fun m hm => ⟨by simp [hm.1], hm.2⟩)]
    · rw [if_neg e]
      by_cases e2 : l.natAbs = v
      · rw [if_pos ⟨e2, hl⟩, if_pos ⟨l, by simp, e2⟩]
      · rw [if_neg (fun h => e2 h.1), if_neg]
        rintro ⟨m, hm, em⟩
        rcases List.mem_cons.1 hm with rfl | hm
        · exact e2 em
        · exact e ⟨m, hm, em⟩

/-- the state of a search: S0 the clauses, U the assumptions -/
structure SJ (S0 : List (List Int)) (U : List Int) (n : Nat) (z : SS) : Prop where
  ci : CI (S0 ++ z.lrn) z
  pn : z.p.n = n
  levr : ∀ y, y ∈ z.lev → 0 ≤ y ∧ y ≤ 1000000000
  decU : ∀ t, t < z.p.tra.length → z.p.rea.getD (z.p.tra.getD t 0).natAbs 0 < 0 → ∀ j, j < U.length → lvl z.lim t = j + 1 → z.p.tra.getD t 0 = U.getD j 0
  und : ∀ j, j < z.lim.length → j < U.length → ∃ t, t < z.p.tra.length ∧ z.p.tra.getD t 0 = U.getD j 0 ∧ lvl z.lim t ≤ j + 1
  rup : rupAll S0 z.lrn = true
  lb : ∀ k, k < z.lim.length → k ≤ U.length + z.lim.getD k 0
  lt : z.lim.length ≤ U.length + z.p.tra.length
  ul : U.length ≤ 1000000

/-- .. between two rounds -/
structure SI (S0 : List (List Int)) (U : List Int) (n : Nat) (z : SS) : Prop where
  sj : SJ S0 U n z
  pih : PIh z.lim (fun _ => True) (S0 ++ z.lrn) z.p
  lh : ∀ x, x ∈ z.lim → x ≤ z.p.head.toNat

section
variable {S0 : List (List Int)} {U : List Int} {n : Nat} {z : SS}

theorem lim_le (hs : z.lim.Pairwise (· ≤ ·)) {i j : Nat} (h : i ≤ j) (hj : j < z.lim.length) : z.lim.getD i 0 ≤ z.lim.getD j 0 := by
  rcases Nat.lt_or_ge i j with h' | h'
  · have := List.pairwise_iff_getElem.1 hs i j (by omega) hj h'
    simpa [show i < z.lim.length by omega, hj] using this
  · have : i = j := by omega
    subst this; exact Nat.le_refl _

theorem SJ.limr (h : SJ S0 U n z) {x : Nat} (hx : x < z.lim.length) : z.lim.getD x 0 ≤ z.p.tra.length := by
  obtain ⟨hp, hpi, hl⟩ := h.ci.pi
  have h1 := hl _ (getD_mem (d := 0) hx)
  have h2 := hpi.hh
  have h3 := hpi.h1
  omega

theorem from_le (h : SJ S0 U n z) : z.from ≤ z.p.tra.length := by
  unfold SS.from
  by_cases e : z.lim.length = 0
  · rw [List.eq_nil_of_length_eq_zero e]; simp
  · exact h.limr (by omega)

theorem lvl_from (hs : z.lim.Pairwise (· ≤ ·)) {t : Nat} (ht : z.from ≤ t) : lvl z.lim t = z.lim.length := by
  by_cases e : z.lim.length = 0
  · have := List.eq_nil_of_length_eq_zero e
    rw [this]; rfl
  · have h1 := lvl_le z.lim t
    have h2 := (lvl_iff hs (z.lim.length - 1) t).2 ⟨by omega, ht⟩
    omega

/-- the trail is longer, its new literals have reasons and the level of the last limit -/
theorem SJ.extend (h : SJ S0 U n z) {p' : PS} (he : Ext z.p p') {hp : Nat} (hpi : PI z.lim (· ∈ z.p.tra) (S0 ++ z.lrn) hp p'.watch p') (hl : ∀ x, x ∈ z.lim → x ≤ hp) : SJ S0 U n (z.deduced p') := by
  obtain ⟨hp0, hpi0, hl0⟩ := h.ci.pi
  have hn0 := hpi0.wf.n0
  have hfl := from_le h
  have hlen := he.len
  have hlits : ∀ l, l ∈ p'.tra.drop z.from → l.natAbs < z.lev.length := fun l hm => by
    have := (hpi.wf.tra l (List.mem_of_mem_drop hm)).2
    have := h.ci.ll
    rw [he.n] at *
    omega
  have hold : ∀ t, t < p'.tra.length → p'.rea.getD (p'.tra.getD t 0).natAbs 0 < 0 → t < z.p.tra.length := fun t ht hr => by
    rcases hpi.rs t ht with ⟨-, h2⟩ | ⟨k, h1, -⟩
    · obtain ⟨s, hs, es⟩ := mem_getD (0 : Int) h2
      have : s = t := hpi.pos_inj (by omega) ht (by rw [he.at hs, es])
      omega
    · omega
  have hrea : ∀ t, t < z.p.tra.length → p'.rea.getD (p'.tra.getD t 0).natAbs 0 = z.p.rea.getD (z.p.tra.getD t 0).natAbs 0 := fun t ht => by
    rw [he.at ht]; exact he.rea _ (getD_mem ht)
  have hlv : ∀ t, t < p'.tra.length → (z.deduced p').lev.getD ((z.deduced p').p.tra.getD t 0).natAbs 0 = lvl z.lim t := fun t ht => by
    show (levAll z.lev (p'.tra.drop z.from) z.lim.length).getD (p'.tra.getD t 0).natAbs 0 = _
    rw [levAll_get _ _ _ _ hlits]
    by_cases hge : z.from ≤ t
    · rw [if_pos, lvl_from h.ci.srt hge]
      refine ⟨p'.tra.getD t 0, ?_, rfl⟩
      have : p'.tra.getD t 0 = (p'.tra.drop z.from).getD (t - z.from) 0 := by
        simp only [List.getD_eq_getElem?_getD, List.getElem?_drop]
        rw [show z.from + (t - z.from) = t from by omega]
      rw [this]
      exact getD_mem (by rw [List.length_drop]; omega)
    · rw [if_neg]
      · rw [he.at (by omega)]
        exact h.ci.lv t (by omega)
      · rintro ⟨l, hm, el⟩
        obtain ⟨s, hs, es⟩ := mem_getD (0 : Int) hm
        rw [List.length_drop] at hs
        have e2 : p'.tra.getD (z.from + s) 0 = l := by
          rw [← es]
          simp only [List.getD_eq_getElem?_getD, List.getElem?_drop]
        have := hpi.pos_inj (i := z.from + s) (j := t) (by omega) ht (by rw [e2, el])
        omega
  exact {
    ci := {
      pi := ⟨hp, hpi.as (fun _ _ _ => trivial), hl⟩
      srt := h.ci.srt
      ll := by show ((levAll _ _ _).length : Int) = p'.n + 1; rw [levAll_len, he.n]; exact h.ci.ll
      lv := hlv
      dec := fun t ht hr => h.ci.dec t (hold t ht hr) (by rw [← hrea t (hold t ht hr)]; exact hr) }
    pn := by show p'.n = n; rw [he.n]; exact h.pn
    levr := by
      have key : ∀ (t lev : List Int), (∀ y, y ∈ lev → 0 ≤ y ∧ y ≤ 1000000000) → ∀ y, y ∈ levAll lev t z.lim.length → 0 ≤ y ∧ y ≤ 1000000000 := by
        intro t
        induction t with
        | nil => intro lev h y hy; exact h y hy
        | cons l r ih =>
          intro lev hlev y hy
          refine ih (lev.set l.natAbs z.lim.length) (fun y hy => ?_) y hy
          rcases mem_set hy with hy | rfl
          · exact hlev y hy
          · have h1 := h.lt
            have h2 := h.ul
            have h3 := hpi0.tlen
            have h4 := hpi0.wf.nmax
            omega
      exact key _ _ h.levr
    decU := fun t ht hr j hj hl => by
      have := hold t ht hr
      rw [show (z.deduced p').p.tra.getD t 0 = z.p.tra.getD t 0 from he.at this]
      exact h.decU t this (by rw [← hrea t this]; exact hr) j hj hl
    und := fun j hj hU => by
      obtain ⟨t, h1, h2, h3⟩ := h.und j hj hU
      exact ⟨t, by show t < p'.tra.length; omega, by show p'.tra.getD t 0 = _; rw [he.at h1]; exact h2, h3⟩
    rup := h.rup
    lb := h.lb
    lt := by show z.lim.length ≤ U.length + p'.tra.length; have := h.lt; omega
    ul := h.ul }

/-- what deducing gives -/
theorem SI.deduce (h : SI S0 U n z) : ∃ res, PS.propagate (n + 1) z.p = some res ∧ res.1.n = z.p.n ∧ WF res.1 ∧ z.from ≤ res.1.tra.length ∧ Ext z.p res.1 ∧ SJ S0 U n (z.deduced res.1) ∧
    (res.2 = true → SI S0 U n (z.deduced res.1) ∧ res.1.head = res.1.tra.length ∧ (∀ k : Nat, (k : Int) ∈ res.1.uni → ∃ x, x ∈ res.1.tra ∧ x ∈ (S0 ++ z.lrn).getD k [])) ∧ (res.2 = false → Bad res.1) := by
  have hpih : PIh z.lim (· ∈ z.p.tra) (S0 ++ z.lrn) z.p := by
    have h1 := h.pih
    refine { wf := h1.wf, nd := h1.nd, vt := h1.vt, h0 := h1.h0, h1 := h1.h1, hh := h1.hh, us := h1.us, un := h1.un, ws := h1.ws, wn := h1.wn, cd := h1.cd, sl := h1.sl, ss := h1.ss, rs := fun t ht => ?_, pr := h1.pr }
    rcases h1.rs t ht with ⟨h2, -⟩ | h2
    · exact .inl ⟨h2, getD_mem ht⟩
    · exact .inr h2
  obtain ⟨res, e1, e2, e3⟩ := propagate_inv hpih h.lh
  have hn : z.p.n.toNat = n := by rw [h.sj.pn]; simp
  rw [hn] at e1
  have hlen := e2.ext.len
  have hfl := from_le h.sj
  have hh0 := h.pih.h0
  rcases hr : res.2 with _ | _
  · obtain ⟨hb, hp, hpi, hhp⟩ := e2.bad hr
    exact ⟨res, e1, e2.ext.n, hpi.wf, by omega, e2.ext, h.sj.extend e2.ext hpi (fun x hx => by have := h.lh x hx; omega), (fun h => by rw [hr] at h; cases h), fun _ => hb⟩
  · obtain ⟨hpi, hhd, -⟩ := e2.ok hr
    have hl : ∀ x, x ∈ z.lim → x ≤ res.1.head.toNat := fun x hx => by
      have h1 := h.lh x hx
      have h2 := h.pih.h1
      have h3 := hpi.h0
      omega
    have hsj := h.sj.extend e2.ext hpi hl
    exact ⟨res, e1, e2.ext.n, hpi.wf, by omega, e2.ext, hsj, fun _ => ⟨⟨hsj, hpi.as (fun _ _ _ => trivial), hl⟩, hhd, fun k hk => e3 hr k (by rw [e2.ext.uni] at hk; exact hk)⟩, fun h => by rw [hr] at h; cases h⟩
end
end Go.Proofs.Ytjbdiobnlmhidaa
namespace Go.Proofs.Ytjbdiobnlmhidaa

theorem getD_dropN {α : Type} (l : List α) (k t : Nat) (d : α) : (l.drop k).getD t d = l.getD (k + t) d := by
  simp [List.getD_eq_getElem?_getD, List.getElem?_drop]

def PS.cut (q : PS) (at' : Nat) : PS := { q with val := PS.zeroed q.val (q.tra.drop at'), tra := q.tra.take at', head := min q.head (at' : Int), fal := -1 }

theorem PI.back {L L' : List Nat} {As : Int → Prop} {S : List (List Int)} {hp : Nat} {q : PS} (h : PI L As S hp q.watch q) {at' : Nat} (hat : at' ∈ L) (hle : at' ≤ hp) (hL : ∀ x, x ∈ L' → x ∈ L) : PI L' As S at' (q.cut at').watch (q.cut at') := by
  have hh := h.hh
  have h1 := h.h1
  have hatl : at' ≤ q.tra.length := by omega
  have htk : (q.tra.take at').length = at' := by rw [List.length_take]; omega
  have hget : ∀ t, t < at' → (q.tra.take at').getD t 0 = q.tra.getD t 0 := fun t ht => getD_take ht
  have hdrop : ∀ t, t < at' → ¬ ∃ l, l ∈ q.tra.drop at' ∧ l.natAbs = (q.tra.getD t 0).natAbs := fun t ht ⟨l, hl, e⟩ => by
    obtain ⟨s, hs, es⟩ := mem_getD (0 : Int) hl
    rw [List.length_drop] at hs
    rw [getD_dropN] at es
    have := h.pos_inj (i := at' + s) (j := t) (by omega) (by omega) (by rw [es, e])
    omega
  have hval : ∀ v, (PS.zeroed q.val (q.tra.drop at')).getD v 0 = 0 ∨ (PS.zeroed q.val (q.tra.drop at')).getD v 0 = q.val.getD v 0 := fun v => by
    rw [zeroed_get]; split
    · exact .inl rfl
    · exact .inr rfl
  have hwf : WF (q.cut at') := {
    n0 := h.wf.n0
    nmax := h.wf.nmax
    val := by show ((PS.zeroed _ _).length : Int) = _; rw [zeroed_length]; exact h.wf.val
    rea := h.wf.rea
    wat := h.wf.wat
    rng := fun v hv => by
      obtain ⟨i, hi, e⟩ := mem_getD (0 : Int) hv
      have hi' : i < q.val.length := by rw [show (q.cut at').val = PS.zeroed q.val (q.tra.drop at') from rfl, zeroed_length] at hi; exact hi
      rcases hval i with h2 | h2
      · rw [show (q.cut at').val = PS.zeroed q.val (q.tra.drop at') from rfl, h2] at e; omega
      · rw [show (q.cut at').val = PS.zeroed q.val (q.tra.drop at') from rfl, h2] at e
        rw [← e]; exact h.wf.rng _ (getD_mem hi')
    lit := h.wf.lit
    clen := h.wf.clen
    cnum := h.wf.cnum
    ent := h.wf.ent
    uni := h.wf.uni
    tra := fun l hl => h.wf.tra l (List.mem_of_mem_take hl) }
  refine { wf := hwf, nd := ?_, vt := fun l hl => ?_, h0 := ?_, h1 := ?_, hh := ?_, us := h.us, un := h.un, ws := h.ws, wn := h.wn, cd := h.cd, sl := h.sl, ss := h.ss, rs := fun t ht => ?_, pr := fun t ht k hk => ?_ }
  · show ((q.tra.take at').map Int.natAbs).Nodup
    rw [List.map_take]
    exact h.nd.sublist (List.take_sublist _ _)
  · show (q.cut at').truth l = 1 ↔ l ∈ q.tra.take at'
    have hv := h.vt l hl
    have et : (q.cut at').truth l = if (∃ m, m ∈ q.tra.drop at' ∧ m.natAbs = l.natAbs) then 0 else q.truth l := by
      unfold PS.truth
      show (if l < 0 then -(PS.zeroed q.val (q.tra.drop at')).getD l.natAbs 0 else (PS.zeroed q.val (q.tra.drop at')).getD l.natAbs 0) = _
      rw [zeroed_get]
      by_cases e : ∃ m, m ∈ q.tra.drop at' ∧ m.natAbs = l.natAbs
      · rw [if_pos e, if_pos e]; simp
      · rw [if_neg e, if_neg e]
    rw [et]
    constructor
    · intro h2
      by_cases e : ∃ m, m ∈ q.tra.drop at' ∧ m.natAbs = l.natAbs
      · rw [if_pos e] at h2; omega
      · rw [if_neg e] at h2
        have hm := hv.1 h2
        rw [← List.take_append_drop at' q.tra, List.mem_append] at hm
        rcases hm with hm | hm
        · exact hm
        · exact absurd ⟨l, hm, rfl⟩ e
    · intro hm
      obtain ⟨t, ht, es⟩ := mem_getD (0 : Int) hm
      rw [htk] at ht
      rw [hget t ht] at es
      have := hdrop t ht
      rw [es] at this
      rw [if_neg this]
      exact hv.2 (List.mem_of_mem_take hm)
  · show 0 ≤ min q.head (at' : Int); have := h.h0; omega
  · show min q.head (at' : Int) ≤ ((q.tra.take at').length : Int); rw [htk]; omega
  · show (at' : Int) ≤ min q.head (at' : Int); omega
  · have ht' : t < at' := by have : t < (q.tra.take at').length := ht; omega
    rcases h.rs t (by omega) with h2 | ⟨k, e1, e2, e3, e4⟩
    · refine .inl ?_
      show q.rea.getD ((q.tra.take at').getD t 0).natAbs 0 < 0 ∧ As ((q.tra.take at').getD t 0)
      rw [hget t ht']; exact h2
    · refine .inr ⟨k, ?_, e2, ?_, fun m hm hne => ?_⟩
      · show q.rea.getD ((q.tra.take at').getD t 0).natAbs 0 = _; rw [hget t ht']; exact e1
      · show (q.tra.take at').getD t 0 ∈ _; rw [hget t ht']; exact e3
      · have hne' : m ≠ q.tra.getD t 0 := by rw [← hget t ht']; exact hne
        have := e4 m hm hne'
        show -m ∈ (q.tra.take at').take t
        rw [List.take_take, Nat.min_eq_left (by omega)]
        exact this
  · have hk' : (k : Int) ∈ q.watch (-(q.tra.getD t 0)) := by
      have : (k : Int) ∈ (q.cut at').watch (-((q.tra.take at').getD t 0)) := hk
      rw [hget t ht] at this
      exact this
    obtain ⟨t', p1, p2, p3⟩ := h.pr t (by omega) k hk'
    have hlt : t' < at' := by
      rcases Nat.lt_or_ge t' at' with h2 | h2
      · exact h2
      · have := p3 at' hat h2
        omega
    refine ⟨t', by show t' < (q.tra.take at').length; omega, ?_, fun x hx hxt => p3 x (hL x hx) hxt⟩
    show (q.tra.take at').getD t' 0 = other (q.cls.getD k []) (-((q.tra.take at').getD t 0))
    rw [hget t' hlt, hget t ht]
    exact p2

section
variable {S0 : List (List Int)} {U : List Int} {n : Nat} {z : SS}

theorem lvl_take {lim : List Nat} (hs : lim.Pairwise (· ≤ ·)) {k t : Nat} (hk : k < lim.length) (ht : t < lim.getD k 0) : lvl (lim.take k) t = lvl lim t := by
  have e : lim = lim.take k ++ lim.drop k := (List.take_append_drop k lim).symm
  have h0 : (lim.drop k).countP (fun x => decide (x ≤ t)) = 0 := List.countP_eq_zero.2 (fun y hy => by
    obtain ⟨i, hi, ei⟩ := mem_getD (0 : Nat) hy
    rw [List.length_drop] at hi
    rw [getD_dropN] at ei
    have h1 : lim.getD k 0 ≤ lim.getD (k + i) 0 := by
      rcases Nat.eq_zero_or_pos i with h | h
      · subst h; exact Nat.le_refl _
      · have := List.pairwise_iff_getElem.1 hs k (k + i) hk (by omega) (by omega)
        simpa [hk, show k + i < lim.length by omega] using this
    simp; omega)
  unfold lvl
  conv => rhs; rw [e, List.countP_append, h0]
  simp

/-- going back to a level -/
theorem SJ.back (h : SJ S0 U n z) {k : Nat} (hk : k < z.lim.length) : SI S0 U n (z.back k) ∧ z.back k = { z with p := z.p.cut (z.lim.getD k 0), lim := z.lim.take k } ∧ (z.back k).p.head = z.lim.getD k 0 := by
  have eb : z.back k = { z with p := z.p.cut (z.lim.getD k 0), lim := z.lim.take k } := by
    unfold SS.back PS.cut
    rw [if_neg (by omega)]
  obtain ⟨hp, hpi, hl⟩ := h.ci.pi
  obtain ⟨at', hat⟩ : ∃ a, z.lim.getD k 0 = a := ⟨_, rfl⟩
  have hmem : at' ∈ z.lim := by rw [← hat]; exact getD_mem hk
  have hle := hl _ hmem
  have hh := hpi.hh
  have hh1 := hpi.h1
  have hpb := hpi.back (L' := z.lim.take k) hmem hle (fun x hx => List.mem_of_mem_take hx)
  rw [eb, hat]
  have hhd : (z.p.cut at').head = at' := by show min z.p.head (at' : Int) = at'; omega
  have hlim : ∀ x, x ∈ z.lim.take k → x ≤ at' := fun x hx => by
    obtain ⟨i, hi, ei⟩ := mem_getD (0 : Nat) hx
    rw [List.length_take] at hi
    rw [getD_take (by omega)] at ei
    rw [← ei, ← hat]
    exact lim_le h.ci.srt (by omega) hk
  have htk : (z.p.tra.take at').length = at' := by rw [List.length_take]; omega
  have hget : ∀ t, t < at' → (z.p.tra.take at').getD t 0 = z.p.tra.getD t 0 := fun t ht => getD_take ht
  have hlvl : ∀ t, t < at' → lvl (z.lim.take k) t = lvl z.lim t := fun t ht => lvl_take h.ci.srt hk (by rw [hat]; exact ht)
  have hlk : (z.lim.take k).length = k := by rw [List.length_take]; omega
  refine ⟨⟨{ ci := { pi := ⟨at', hpb, hlim⟩, srt := h.ci.srt.sublist (List.take_sublist _ _), ll := h.ci.ll, lv := fun t ht => ?_, dec := fun t ht hr => ?_ }, pn := h.pn, levr := h.levr, decU := fun t ht hr j hj hl => ?_, und := fun j hj hU => ?_, rup := h.rup, lb := fun i hi => ?_, lt := ?_, ul := h.ul }, ?_, fun x hx => ?_⟩, rfl, hhd⟩
  · have ht' : t < at' := by have : t < (z.p.tra.take at').length := ht; omega
    show z.lev.getD ((z.p.tra.take at').getD t 0).natAbs 0 = _
    rw [hget t ht', h.ci.lv t (by omega)]
    show (lvl z.lim t : Int) = (lvl (z.lim.take k) t : Nat)
    rw [hlvl t ht']
  · have ht' : t < at' := by have : t < (z.p.tra.take at').length := ht; omega
    have hr' : z.p.rea.getD ((z.p.tra.take at').getD t 0).natAbs 0 < 0 := hr
    rw [hget t ht'] at hr'
    have hd := h.ci.dec t (by omega) hr'
    show t ∈ z.lim.take k
    have hd' := hd
    rw [← List.take_append_drop k z.lim, List.mem_append] at hd'
    rcases hd' with hd' | hd'
    · exact hd'
    · obtain ⟨i, hi, ei⟩ := mem_getD (0 : Nat) hd'
      rw [List.length_drop] at hi
      rw [getD_dropN] at ei
      have := lim_le (z := z) h.ci.srt (i := k) (j := k + i) (by omega) (by omega)
      omega
  · have ht' : t < at' := by have : t < (z.p.tra.take at').length := ht; omega
    have hr' : z.p.rea.getD ((z.p.tra.take at').getD t 0).natAbs 0 < 0 := hr
    rw [hget t ht'] at hr'
    show (z.p.tra.take at').getD t 0 = _
    rw [hget t ht']
    have hl' : lvl (z.lim.take k) t = j + 1 := hl
    rw [hlvl t ht'] at hl'
    exact h.decU t (by omega) hr' j hj hl'
  · have hj' : j < (z.lim.take k).length := hj
    rw [hlk] at hj'
    obtain ⟨t, t1, t2, t3⟩ := h.und j (by omega) hU
    have ht' : t < at' := by
      rcases Nat.lt_or_ge t at' with h2 | h2
      · exact h2
      · have := (lvl_iff h.ci.srt k t).2 ⟨hk, by omega⟩
        omega
    refine ⟨t, by show t < (z.p.tra.take at').length; omega, ?_, ?_⟩
    · show (z.p.tra.take at').getD t 0 = _; rw [hget t ht']; exact t2
    · show lvl (z.lim.take k) t ≤ _; rw [hlvl t ht']; exact t3
  · have hi' : i < (z.lim.take k).length := hi
    rw [hlk] at hi'
    show i ≤ U.length + (z.lim.take k).getD i 0
    rw [getD_take hi']
    exact h.lb i (by omega)
  · show (z.lim.take k).length ≤ U.length + (z.p.tra.take at').length
    rw [hlk, htk]
    have := h.lb k hk
    omega
  · show PI (z.lim.take k) (fun _ => True) (S0 ++ z.lrn) (z.p.cut at').head.toNat (z.p.cut at').watch (z.p.cut at')
    rw [hhd]; simpa using hpb
  · show x ≤ (z.p.cut at').head.toNat
    rw [hhd]; simpa using hlim x hx
end
end Go.Proofs.Ytjbdiobnlmhidaa
namespace Go.Proofs.Ytjbdiobnlmhidaa

theorem sw_getI {c : List Int} {j k i : Nat} (hj : j < c.length) (hk : k < c.length) : (sw c j k).getD i 0 = if i = k then c.getD j 0 else if i = j then c.getD k 0 else c.getD i 0 := by
  unfold sw
  rw [getD_set, getD_set]
  by_cases e : i = k
  · subst e; rw [if_pos rfl, if_pos ⟨rfl, by simpa using hk⟩]
  · rw [if_neg e, if_neg (fun h => e h.1.symm)]
    by_cases e2 : i = j
    · subst e2; rw [if_pos rfl, if_pos ⟨rfl, hj⟩]
    · rw [if_neg e2, if_neg (fun h => e2 h.1.symm)]
theorem sw_lenI (c : List Int) (j k : Nat) : (sw c j k).length = c.length := by unfold sw; simp

theorem arr_spec (lev : List Int) : ∀ (r k : Nat) (c : List Int) (x : Nat), k + r = c.length → 1 ≤ k → (∀ j, 1 ≤ j → j < k → (lev.getD (c.getD j 0).natAbs 0).toNat ≤ x) → (x = 0 ∨ (1 < k ∧ (lev.getD (c.getD 1 0).natAbs 0).toNat = x)) →
    (arrGo lev r k c x).1.Perm c ∧ (arrGo lev r k c x).1.getD 0 0 = c.getD 0 0 ∧ (∀ j, 1 ≤ j → j < c.length → (lev.getD ((arrGo lev r k c x).1.getD j 0).natAbs 0).toNat ≤ (arrGo lev r k c x).2) ∧
    ((arrGo lev r k c x).2 = 0 ∨ (1 < c.length ∧ (lev.getD ((arrGo lev r k c x).1.getD 1 0).natAbs 0).toNat = (arrGo lev r k c x).2)) := by
  intro r
  induction r with
  | zero =>
    intro k c x hk h1 h2 h3
    exact ⟨List.Perm.refl _, rfl, fun j j1 j2 => h2 j j1 (by omega), h3.imp_right (fun h => ⟨by omega, h.2⟩)⟩
  | succ r ih =>
    intro k c x hk h1 h2 h3
    unfold arrGo
    by_cases hx : x < (lev.getD (c.getD k 0).natAbs 0).toNat
    · rw [if_pos hx]
      have hkl : k < c.length := by omega
      have h1l : 1 < c.length ∨ k = 1 := by omega
      have h1c : 1 < c.length := by omega
      have es : (c.set 1 (c.getD k 0)).set k (c.getD 1 0) = sw c 1 k := rfl
      rw [es]
      have hg := fun i => sw_getI (i := i) h1c hkl
      obtain ⟨g1, g2, g3, g4⟩ := ih (k + 1) (sw c 1 k) (lev.getD (c.getD k 0).natAbs 0).toNat (by rw [sw_lenI]; omega) (by omega) (fun j j1 j2 => by
        rw [hg]
        by_cases e : j = k
        · rw [if_pos e]
          by_cases e1 : k = 1
          · subst e1; exact Nat.le_refl _
          · have := h2 1 (by omega) (by omega); omega
        · rw [if_neg e]
          by_cases e1 : j = 1
          · rw [if_pos e1]; exact Nat.le_refl _
          · rw [if_neg e1]
            have := h2 j j1 (by omega); omega) (.inr ⟨by omega, by
        rw [hg]
        by_cases e : 1 = k
        · rw [if_pos e]; subst e; rfl
        · rw [if_neg e, if_pos rfl]⟩)
      rw [sw_lenI] at g3 g4
      refine ⟨g1.trans (sw_perm h1c hkl), ?_, g3, g4⟩
      rw [g2, hg, if_neg (by omega), if_neg (by omega)]
    · rw [if_neg hx]
      refine ih (k + 1) c x (by omega) (by omega) (fun j j1 j2 => ?_) (h3.imp_right (fun h => ⟨by omega, h.2⟩))
      by_cases e : j = k
      · subst e; omega
      · exact h2 j j1 (by omega)

theorem arrange_spec (lev c : List Int) (hc : 1 ≤ c.length) : (arrange lev c).1.Perm c ∧ (arrange lev c).1.getD 0 0 = c.getD 0 0 ∧ (∀ j, 1 ≤ j → j < c.length → (lev.getD ((arrange lev c).1.getD j 0).natAbs 0).toNat ≤ (arrange lev c).2) ∧
    ((arrange lev c).2 = 0 ∨ (1 < c.length ∧ (lev.getD ((arrange lev c).1.getD 1 0).natAbs 0).toNat = (arrange lev c).2)) :=
  arr_spec lev (c.length - 1) 1 c 0 (by omega) (by omega) (fun j h1 h2 => by omega) (.inl rfl)

section
variable {S0 : List (List Int)} {U : List Int} {n : Nat} {z : SS}

/-- a short clause is added -/
theorem SI.learnShort (h : SI S0 U n z) {c : List Int} (hc : Lits n c) (hl : (distinct c).length < 2) (hcl : c.length ≤ 100000000) (hn : z.p.cls.length < 100000000) (hr : rupB (S0 ++ z.lrn) c = true) : SI S0 U n (z.learnt c) := by
  obtain ⟨a1, a2, a3, a4, a5, a6, a7, a8, a9, a10⟩ := add_same z.p c
  have hc' : Lits z.p.n.toNat c := by rw [h.sj.pn]; simpa using hc
  obtain ⟨p0, p1⟩ := PI.add h.pih hc' hcl hn
  rw [List.append_assoc] at p0
  have hpr : PIh z.lim (fun _ => True) (S0 ++ (z.lrn ++ [c])) (z.p.add c) := by
    refine { wf := p0.wf, nd := p0.nd, vt := p0.vt, h0 := p0.h0, h1 := p0.h1, hh := ?_, us := p0.us, un := p0.un, ws := p0.ws, wn := p0.wn, cd := p0.cd, sl := p0.sl, ss := p0.ss, rs := p0.rs, pr := fun t ht k hk => ?_ }
    · have := p0.h0; omega
    · rw [a6] at ht
      rw [a5] at hk
      have ht' : t < z.p.tra.length := by have := h.pih.h1; have := h.pih.h0; omega
      have hlit := h.pih.wf.tra _ (getD_mem (d := 0) ht')
      have hws := (p0.ws (-(z.p.tra.getD t 0)) (by rw [a2, Int.natAbs_neg]; exact hlit.2) k).1 hk
      by_cases hk2 : k < z.p.cls.length
      · exact p1 t ht k hk2 hk
      · exfalso
        have hkl := hws.1
        rw [a1, List.length_append, List.length_singleton] at hkl
        have : k = z.p.cls.length := by omega
        subst this
        have h2 := hws.2.1
        rw [a1, getD_snoc, if_neg (by omega), if_pos rfl] at h2
        omega
  refine ⟨{ ci := { pi := ⟨_, hpr, fun x hx => by show x ≤ (z.p.add c).head.toNat; rw [a6]; exact h.lh x hx⟩, srt := h.sj.ci.srt, ll := by show (z.lev.length : Int) = (z.p.add c).n + 1; rw [a2]; exact h.sj.ci.ll, lv := fun t ht => ?_, dec := fun t ht hr => ?_ }, pn := by show (z.p.add c).n = n; rw [a2]; exact h.sj.pn, levr := h.sj.levr, decU := fun t ht hr => ?_, und := fun j hj hU => ?_, rup := ?_, lb := h.sj.lb, lt := by show z.lim.length ≤ U.length + (z.p.add c).tra.length; rw [a5]; exact h.sj.lt, ul := h.sj.ul }, hpr, fun x hx => by show x ≤ (z.p.add c).head.toNat; rw [a6]; exact h.lh x hx⟩
  · have ht' : t < (z.p.add c).tra.length := ht
    show z.lev.getD ((z.p.add c).tra.getD t 0).natAbs 0 = _
    rw [a5] at ht' ⊢
    exact h.sj.ci.lv t ht'
  · have ht' : t < (z.p.add c).tra.length := ht
    have hr' : (z.p.add c).rea.getD ((z.p.add c).tra.getD t 0).natAbs 0 < 0 := hr
    rw [a5] at ht'
    rw [a4, a5] at hr'
    exact h.sj.ci.dec t ht' hr'
  · have ht' : t < (z.p.add c).tra.length := ht
    have hr' : (z.p.add c).rea.getD ((z.p.add c).tra.getD t 0).natAbs 0 < 0 := hr
    rw [a5] at ht'
    rw [a4, a5] at hr'
    show ∀ j, j < U.length → lvl z.lim t = j + 1 → (z.p.add c).tra.getD t 0 = U.getD j 0
    rw [a5]
    exact h.sj.decU t ht' hr'
  · obtain ⟨t, t1, t2, t3⟩ := h.sj.und j hj hU
    exact ⟨t, by show t < (z.p.add c).tra.length; rw [a5]; exact t1, by show (z.p.add c).tra.getD t 0 = _; rw [a5]; exact t2, t3⟩
  · show rupAll S0 (z.lrn ++ [c]) = true
    rw [rupAll_app, h.sj.rup]
    simp only [rupAll, hr, Bool.and_true]

/-- the learned clause is added, and its first literal becomes true: x is the level of its second one -/
theorem SI.learnLong (h : SI S0 U n z) {c : List Int} (hc : Lits n c) (hnd : c.Nodup) (h2 : 2 ≤ c.length) (hcl : c.length ≤ 100000000) (hn : z.p.cls.length < 100000000) (hr : rupB (S0 ++ z.lrn) c = true) (hhd : z.p.head = z.p.tra.length)
    (h0 : ∀ l, l ∈ z.p.tra → l.natAbs ≠ (c.getD 0 0).natAbs) (hf : ∀ m, m ∈ c → m ≠ c.getD 0 0 → -m ∈ z.p.tra) {t1 : Nat} (ht1 : t1 < z.p.tra.length) (e1 : z.p.tra.getD t1 0 = -(c.getD 1 0)) (hl1 : lvl z.lim t1 = z.lim.length) :
    SI S0 U n ((z.learnt c).forced c z.lim.length) ∧ ((z.learnt c).forced c z.lim.length).p.tra = z.p.tra ++ [c.getD 0 0] := by
  obtain ⟨a1, a2, a3, a4, a5, a6, a7, a8, a9, a10⟩ := add_same z.p c
  have hds := distinct_self hnd
  have hc' : Lits z.p.n.toNat c := by rw [h.sj.pn]; simpa using hc
  obtain ⟨p0, p1⟩ := PI.add h.pih hc' hcl hn
  rw [List.append_assoc] at p0
  have hc0 := hc _ (getD_mem (d := 0) (l := c) (i := 0) (by omega))
  have hlit : Lit (z.p.add c).n (c.getD 0 0) := ⟨hc0.1, by rw [a2, h.sj.pn]; omega⟩
  have hcn : (z.p.add c).cls.length = z.p.cls.length + 1 := by rw [a1, List.length_append, List.length_singleton]
  have hcg : (z.p.add c).cls.getD z.p.cls.length [] = c := by rw [a1, getD_snoc, if_neg (by omega), if_pos rfl, hds]
  have htr0 : (z.p.add c).truth (c.getD 0 0) = 0 := by
    rcases truth_cases p0.wf hlit with e | e | e
    · exact absurd rfl (h0 _ (by have := (p0.vt _ hlit).1 e; rw [a5] at this; exact this))
    · exact e
    · have := p0.true_iff hlit
      have := this.1 e
      rw [a5] at this
      exact absurd (Int.natAbs_neg _) (h0 _ this)
  have ps := p0.set (l := c.getD 0 0) (why := (z.p.cls.length : Nat)) hlit htr0 (.inr ⟨z.p.cls.length, rfl, by omega, by rw [hcg]; exact getD_mem (by omega), fun m hm hne => by rw [hcg] at hm; rw [a5]; exact hf m hm hne⟩)
  have hwhy : ((z.p.add c).cls.length : Int) - 1 = (z.p.cls.length : Nat) := by rw [hcn]; omega
  have ef : (z.learnt c).forced c z.lim.length = { z with lrn := z.lrn ++ [c], p := (z.p.add c).set (c.getD 0 0) (z.p.cls.length : Nat), lev := z.lev.set (c.getD 0 0).natAbs z.lim.length } := by
    unfold SS.forced SS.learnt
    rw [if_pos (by omega)]
    show ({ z with lrn := z.lrn ++ [c], p := (z.p.add c).set (c.getD 0 0) (((z.p.add c).cls.length : Int) - 1), lev := z.lev.set (c.getD 0 0).natAbs z.lim.length } : SS) = _
    rw [hwhy]
  obtain ⟨p', hp'⟩ : ∃ p', (z.p.add c).set (c.getD 0 0) (z.p.cls.length : Nat) = p' := ⟨_, rfl⟩
  have htra : p'.tra = z.p.tra ++ [c.getD 0 0] := by rw [← hp']; show (z.p.add c).tra ++ [_] = _; rw [a5]
  have hhead : p'.head = z.p.head := by rw [← hp']; show (z.p.add c).head = _; exact a6
  have hcls : p'.cls = (z.p.add c).cls := by rw [← hp']; rfl
  have hnn : p'.n = z.p.n := by rw [← hp']; exact a2
  have hwt : p'.watch = (z.p.add c).watch := by rw [← hp']; rfl
  have hreaO : ∀ t, t < z.p.tra.length → p'.rea.getD (p'.tra.getD t 0).natAbs 0 = z.p.rea.getD (z.p.tra.getD t 0).natAbs 0 := fun t ht => by
    rw [htra, getD_app ht, ← hp']
    show ((z.p.add c).rea.set _ _).getD _ _ = _
    rw [a4, getD_set, if_neg (fun h => h0 _ (getD_mem ht) h.1.symm)]
  have hreaN : p'.rea.getD (p'.tra.getD z.p.tra.length 0).natAbs 0 = (z.p.cls.length : Nat) := by
    rw [htra, getD_snoc, if_neg (by omega), if_pos rfl, ← hp']
    show ((z.p.add c).rea.set _ _).getD _ _ = _
    rw [getD_set, if_pos ⟨rfl, (p0.wf.litOk hlit).rea⟩]
  rw [hp'] at ps
  have hlenT : p'.tra.length = z.p.tra.length + 1 := by rw [htra]; simp
  have hhdn : z.p.head.toNat = z.p.tra.length := by rw [hhd]; simp
  have hpr : PIh z.lim (fun _ => True) (S0 ++ (z.lrn ++ [c])) p' := by
    refine { wf := ps.wf, nd := ps.nd, vt := ps.vt, h0 := ps.h0, h1 := ps.h1, hh := ?_, us := ps.us, un := ps.un, ws := ?_, wn := ?_, cd := ps.cd, sl := ps.sl, ss := ps.ss, rs := ps.rs, pr := fun t ht k hk => ?_ }
    · have := ps.h0; omega
    · have := ps.ws; rw [hwt]; exact this
    · have := ps.wn; rw [hwt]; exact this
    · rw [hhead, hhdn] at ht
      rw [hwt, htra, getD_app ht] at hk
      have hlitT := h.pih.wf.tra _ (getD_mem (d := 0) ht)
      by_cases hk2 : k < z.p.cls.length
      · have hpa := p1 t (by rw [hhdn]; exact ht) k hk2 hk
        have := hpa.mono (q' := p') ⟨[c.getD 0 0], by rw [htra, a5]⟩ (by rw [a5]; exact ht) (by rw [hcls])
        exact this
      · have hws := (p0.ws (-(z.p.tra.getD t 0)) (by rw [a2, Int.natAbs_neg]; exact hlitT.2) k).1 hk
        have hkl := hws.1
        have : k = z.p.cls.length := by omega
        subst this
        have hw := hws.2.2
        rw [hcg] at hw
        have hne0 : -(z.p.tra.getD t 0) ≠ c.getD 0 0 := fun e => h0 _ (getD_mem ht) (by rw [← e, Int.natAbs_neg])
        have hw1 := hw.resolve_left hne0
        have et : t = t1 := h.pih.pos_inj ht ht1 (by rw [e1, Int.natAbs_neg, ← hw1, Int.natAbs_neg])
        refine ⟨z.p.tra.length, by omega, ?_, fun x hx hxt => ?_⟩
        · rw [htra, getD_snoc, if_neg (by omega), if_pos rfl, getD_app ht, hcls, hcg]
          unfold other
          rw [if_neg (fun e => hne0 e.symm)]
        · rw [et]
          obtain ⟨i, hi, ei⟩ := mem_getD (0 : Nat) hx
          have := (lvl_iff h.sj.ci.srt i t1).1 (by rw [hl1]; exact hi)
          omega
  have hlh : ∀ x, x ∈ z.lim → x ≤ p'.head.toNat := fun x hx => by rw [hhead]; exact h.lh x hx
  have hlvN : lvl z.lim z.p.tra.length = z.lim.length := by
    have h1 := lvl_mono z.lim (s := t1) (t := z.p.tra.length) (by omega)
    have h2 := lvl_le z.lim z.p.tra.length
    omega
  refine ⟨?_, by rw [ef, hp']; exact htra⟩
  rw [ef, hp']
  refine ⟨{ ci := { pi := ⟨_, hpr, hlh⟩, srt := h.sj.ci.srt, ll := ?_, lv := fun t ht => ?_, dec := fun t ht hr => ?_ }, pn := ?_, levr := fun y hy => ?_, decU := fun t ht hr => ?_, und := fun j hj hU => ?_, rup := ?_, lb := h.sj.lb, lt := ?_, ul := h.sj.ul }, hpr, hlh⟩
  · show ((z.lev.set _ _).length : Int) = p'.n + 1
    rw [List.length_set, hnn]; exact h.sj.ci.ll
  · have ht' : t < p'.tra.length := ht
    show (z.lev.set (c.getD 0 0).natAbs z.lim.length).getD (p'.tra.getD t 0).natAbs 0 = (lvl z.lim t : Nat)
    by_cases e : t < z.p.tra.length
    · rw [htra, getD_app e, getD_set, if_neg (fun h => h0 _ (getD_mem e) h.1.symm)]
      exact h.sj.ci.lv t e
    · have : t = z.p.tra.length := by omega
      subst this
      rw [htra, getD_snoc, if_neg (by omega), if_pos rfl, getD_set, if_pos ⟨rfl, by have := h.sj.ci.ll; rw [h.sj.pn] at this; omega⟩, hlvN]
  · have ht' : t < p'.tra.length := ht
    by_cases e : t < z.p.tra.length
    · exact h.sj.ci.dec t e (by rw [← hreaO t e]; exact hr)
    · have : t = z.p.tra.length := by omega
      subst this
      have hr' : p'.rea.getD (p'.tra.getD z.p.tra.length 0).natAbs 0 < 0 := hr
      rw [hreaN] at hr'; omega
  · show p'.n = n; rw [hnn]; exact h.sj.pn
  · rcases mem_set hy with hy | rfl
    · exact h.sj.levr y hy
    · have h1 := h.sj.lt
      have h2 := h.sj.ul
      have h3 := h.pih.tlen
      have h4 := h.pih.wf.nmax
      omega
  · have ht' : t < p'.tra.length := ht
    by_cases e : t < z.p.tra.length
    · show ∀ j, j < U.length → lvl z.lim t = j + 1 → p'.tra.getD t 0 = U.getD j 0
      rw [htra, getD_app e]
      exact h.sj.decU t e (by rw [← hreaO t e]; exact hr)
    · have : t = z.p.tra.length := by omega
      subst this
      have hr' : p'.rea.getD (p'.tra.getD z.p.tra.length 0).natAbs 0 < 0 := hr
      rw [hreaN] at hr'; omega
  · obtain ⟨t, t1', t2, t3⟩ := h.sj.und j hj hU
    exact ⟨t, by show t < p'.tra.length; omega, by show p'.tra.getD t 0 = _; rw [htra, getD_app t1']; exact t2, t3⟩
  · show rupAll S0 (z.lrn ++ [c]) = true
    rw [rupAll_app, h.sj.rup]
    simp only [rupAll, hr, Bool.and_true]
  · show z.lim.length ≤ U.length + p'.tra.length; have := h.sj.lt; omega
end
end Go.Proofs.Ytjbdiobnlmhidaa
namespace Go.Proofs.Ytjbdiobnlmhidaa

section
variable {S0 : List (List Int)} {U : List Int} {n : Nat} {z : SS}

theorem neg_mem {c : List Int} {x : Int} : x ∈ neg c ↔ -x ∈ c := by
  unfold neg
  rw [List.mem_map]
  constructor
  · rintro ⟨y, hy, rfl⟩; rw [Int.neg_neg]; exact hy
  · intro h; exact ⟨-x, h, by omega⟩

/-- where the search stands behind a learned clause -/
def AttRes (S0 : List (List Int)) (z z' : SS) : Prop :=
  (z'.lim = [] ∧ ∃ k : Nat, (k : Int) ∈ z'.p.uni ∧ (S0 ++ z'.lrn).getD k [] = []) ∨
  (z'.lim = [] ∧ z'.p.tra = z.p.tra.take (z.lim.getD 0 0) ∧ z.lim.getD 0 0 < z.p.tra.length ∧ ∃ (k : Nat) (l : Int), (k : Int) ∈ z'.p.uni ∧ (S0 ++ z'.lrn).getD k [] = [l] ∧ ¬ l ∈ z'.p.tra) ∨
  (∃ x l, x < z.lim.length ∧ z.lim.getD x 0 < z.p.tra.length ∧ z'.lim = z.lim.take x ∧ z'.p.tra = z.p.tra.take (z.lim.getD x 0) ++ [l] ∧ ∀ y, y ∈ z'.lim → y < z.lim.getD x 0)

theorem back_lrn (z : SS) (k : Nat) : (z.back k).lrn = z.lrn := (back_same z k).2.2.2.2.2.2.2.2

theorem SJ.attach (h : SJ S0 U n z) (hlim : 0 < z.lim.length) {F : Nat} (hF : F < z.p.cls.length) (hFf : ∀ m, m ∈ z.p.cls.getD F [] → -m ∈ z.p.tra) {c : List Int} (hl : Learnt z F c) (hn : z.p.cls.length < 100000000) (hnm : n ≤ 10000000) :
    SI S0 U n (z.attach c) ∧ (z.attach c).lrn.length = z.lrn.length + 1 ∧ AttRes S0 z (z.attach c) := by
  obtain ⟨hp, hpi, hll⟩ := h.ci.pi
  have hsl := hpi.sl
  have hlrn : ∀ (d : List Int) (k x : Nat), (((z.back k).learnt d).forced d x).lrn = z.lrn ++ [d] := fun d k x => by
    unfold SS.forced SS.learnt
    split
    · show (z.back k).lrn ++ [d] = _; rw [back_lrn]
    · show (z.back k).lrn ++ [d] = _; rw [back_lrn]
  rcases hl with ⟨rfl, h0⟩ | ⟨top, x, a, ⟨hj, ha, hta, hop, hcov⟩, htop, rfl⟩
  · -- nothing was decided
    have hcf := h.ci.zero hF hFf h0
    obtain ⟨hsb, -, -⟩ := h.back hlim
    have bs := back_same z 0
    have ea : z.attach [] = (z.back 0).learnt [] := by
      have : arrange z.lev [] = ([], 0) := rfl
      unfold SS.attach
      rw [this]
      unfold SS.forced
      rw [if_neg (by simp)]
    have hru : rupB (S0 ++ (z.back 0).lrn) [] = true := by rw [back_lrn]; exact confB_true hcf
    have hsi := hsb.learnShort (c := []) (fun l hl => by cases hl) (by show ([] : List Int).length < 2; simp) (by simp) (by rw [bs.1]; exact hn) hru
    rw [ea]
    refine ⟨hsi, by show ((z.back 0).lrn ++ [[]]).length = _; rw [back_lrn]; simp, .inl ⟨?_, z.p.cls.length, ?_, ?_⟩⟩
    · show (z.back 0).lim = []
      rw [(h.back hlim).2.1]; rfl
    · show (_ : Int) ∈ ((z.back 0).p.add []).uni
      rw [(add_same _ _).2.2.2.2.2.2.2.2.2, if_pos (by show ([] : List Int).length < 2; simp), bs.1]; simp
    · show (S0 ++ ((z.back 0).lrn ++ [[]])).getD _ _ = _
      rw [back_lrn, ← List.append_assoc, getD_snoc, if_neg (by omega), if_pos hsl]
  · -- a clause of the analysis
    obtain ⟨c0, hc0⟩ : ∃ c0, -(z.p.tra.getD a 0) = c0 := ⟨_, rfl⟩
    have hlits : ∀ m, m ∈ c0 :: x.rest → Lit z.p.n m := fun m hm => by
      rcases List.mem_cons.1 hm with rfl | hm
      · rw [← hc0]; exact (hpi.wf.tra _ (getD_mem ha)).neg
      · have := (hpi.wf.tra _ (hj.rs m hm).2.1).neg
        rw [Int.neg_neg] at this; exact this
    have hLits : Lits n (c0 :: x.rest) := fun m hm => by
      have := hlits m hm
      exact ⟨this.1, by have := this.2; rw [h.pn] at this; omega⟩
    have hc0abs : c0.natAbs = (z.p.tra.getD a 0).natAbs := by rw [← hc0, Int.natAbs_neg]
    have hlevtop := (topB_iff.1 hta).2
    have hnd : ((c0 :: x.rest).map Int.natAbs).Nodup := by
      rw [List.map_cons, List.nodup_cons]
      refine ⟨fun hm => ?_, hj.rn⟩
      obtain ⟨m, hm, e⟩ := List.mem_map.1 hm
      have := (hj.rs m hm).2.2
      rw [e, hc0abs, hlevtop] at this
      omega
    have hnd2 : (c0 :: x.rest).Nodup := (by unfold List.Nodup at hnd ⊢; exact (List.pairwise_map.1 hnd).imp (fun h e => h (by rw [e])))
    have hclen : (c0 :: x.rest).length ≤ 100000000 := by
      have h1 := nodup_range n 1 _ hnd (fun v hv => by
        obtain ⟨m, hm, rfl⟩ := List.mem_map.1 hv
        have := hLits m hm
        omega)
      rw [List.length_map] at h1; omega
    have hconf : Conf (S0 ++ z.lrn) (neg (c0 :: x.rest)) := by rw [← hc0]; exact hj.rup h.ci ha hop hta hF hFf hcov
    obtain ⟨s1, s2, s3, s4⟩ := arrange_spec z.lev (c0 :: x.rest) (by simp)
    obtain ⟨c', hc'⟩ : ∃ c', (arrange z.lev (c0 :: x.rest)).1 = c' := ⟨_, rfl⟩
    obtain ⟨x', hx'⟩ : ∃ x', (arrange z.lev (c0 :: x.rest)).2 = x' := ⟨_, rfl⟩
    rw [hc', hx'] at s3 s4
    rw [hc'] at s1 s2
    have s2' : c'.getD 0 0 = c0 := s2
    have hcl' : c'.length = (c0 :: x.rest).length := s1.length_eq
    have hconf' : Conf (S0 ++ z.lrn) (neg c') := hconf.more (fun l hl => by rw [neg_mem] at hl ⊢; exact s1.mem_iff.2 hl)
    have hLits' : Lits n c' := fun m hm => hLits m (s1.mem_iff.1 hm)
    have hnd' : c'.Nodup := s1.nodup_iff.2 hnd2
    have ea : z.attach (c0 :: x.rest) = ((z.back x').learnt c').forced c' x' := by
      unfold SS.attach
      rw [hc', hx']
    have hlva : (lvl z.lim a : Int) = top := by rw [← hlevtop, h.ci.lv a ha]
    have htop0 : 0 < lvl z.lim a := by omega
    have hrest : ∀ m, m ∈ x.rest → ∃ t, t < z.p.tra.length ∧ z.p.tra.getD t 0 = -m ∧ z.lev.getD m.natAbs 0 = (lvl z.lim t : Nat) ∧ 1 ≤ lvl z.lim t ∧ lvl z.lim t < lvl z.lim a := fun m hm => by
      obtain ⟨r1, r2, r3⟩ := hj.rs m hm
      obtain ⟨t, ht, et⟩ := mem_getD (0 : Int) r2
      have e1 := h.ci.lv t ht
      rw [et, Int.natAbs_neg] at e1
      obtain ⟨t2, -, -, hne⟩ := hj.sn _ r1
      refine ⟨t, ht, et, e1, ?_, ?_⟩
      · omega
      · omega
    have hlrn' : (z.attach (c0 :: x.rest)).lrn.length = z.lrn.length + 1 := by rw [ea, hlrn]; simp
    rw [hc0]
    refine ⟨?_, hlrn', ?_⟩ <;> rw [ea]
    all_goals
      by_cases hr0 : x.rest.length = 0
      case pos =>
        have hre : x.rest = [] := List.eq_nil_of_length_eq_zero hr0
        have hx0 : x' = 0 := s4.resolve_right (fun h => by have := h.1; rw [List.length_cons, hr0] at this; omega)
        subst hx0
        have hc1 : c' = [c0] := by
          rw [hre] at s1
          exact List.perm_singleton.1 s1
        subst hc1
        obtain ⟨hsb, eb, hhd⟩ := h.back hlim
        have bs := back_same z 0
        have ef : ((z.back 0).learnt [c0]).forced [c0] 0 = (z.back 0).learnt [c0] := by unfold SS.forced; rw [if_neg (by simp)]
        rw [ef]
        have hsi := hsb.learnShort (c := [c0]) hLits' (by show [c0].length < 2; simp) (by simp) (by rw [bs.1]; exact hn) (by rw [back_lrn]; exact confB_true hconf')
        have hat := (lvl_iff h.ci.srt 0 a).1 htop0
        first
          | exact hsi
          | (refine .inr (.inl ⟨?_, ?_, by omega, z.p.cls.length, c0, ?_, ?_, fun hm => ?_⟩)
             · show (z.back 0).lim = []; rw [eb]; rfl
             · show ((z.back 0).p.add [c0]).tra = _; rw [(add_same _ _).2.2.2.2.1, eb]; rfl
             · show (_ : Int) ∈ ((z.back 0).p.add [c0]).uni
               rw [(add_same _ _).2.2.2.2.2.2.2.2.2, if_pos (by show [c0].length < 2; simp), bs.1]; simp
             · show (S0 ++ ((z.back 0).lrn ++ [[c0]])).getD _ _ = _
               rw [back_lrn, ← List.append_assoc, getD_snoc, if_neg (by omega), if_pos hsl]
             · have hm' : c0 ∈ ((z.back 0).p.add [c0]).tra := hm
               rw [(add_same _ _).2.2.2.2.1, eb] at hm'
               obtain ⟨s, hs, es⟩ := mem_getD (0 : Int) hm'
               have hs' : s < (z.p.tra.take (z.lim.getD 0 0)).length := hs
               rw [List.length_take] at hs'
               have es' : (z.p.tra.take (z.lim.getD 0 0)).getD s 0 = c0 := es
               rw [getD_take (by omega)] at es'
               have := hpi.pos_inj (i := s) (j := a) (by omega) ha (by rw [es', hc0abs])
               omega)
      case neg =>
        have h2 : 2 ≤ (c0 :: x.rest).length := by simp; omega
        have hm1 : c'.getD 1 0 ∈ c' := getD_mem (by omega)
        have hne1 : c'.getD 1 0 ≠ c0 := by rw [← s2']; exact fun e => nodup_01 hnd' (by omega) e.symm
        have hm1r : c'.getD 1 0 ∈ x.rest := (List.mem_cons.1 (s1.mem_iff.1 hm1)).resolve_left hne1
        obtain ⟨t1, ht1, et1, el1, eg1, elt1⟩ := hrest _ hm1r
        have hx1 : (z.lev.getD (c'.getD 1 0).natAbs 0).toNat = x' := by
          rcases s4 with h4 | h4
          · have := s3 1 (by omega) (by omega)
            omega
          · exact h4.2
        have hlx : lvl z.lim t1 = x' := by omega
        have hxl : x' < z.lim.length := by have := lvl_le z.lim a; omega
        have hata := (lvl_iff h.ci.srt x' a).1 (by omega)
        obtain ⟨hsb, eb, hhd⟩ := h.back hxl
        have bs := back_same z x'
        obtain ⟨at', hat'⟩ : ∃ a', z.lim.getD x' 0 = a' := ⟨_, rfl⟩
        rw [hat'] at hata hhd eb
        have htr : (z.back x').p.tra = z.p.tra.take at' := by rw [eb]; rfl
        have hlm : (z.back x').lim = z.lim.take x' := by rw [eb]
        have hlml : (z.back x').lim.length = x' := by rw [hlm, List.length_take]; omega
        have htl : (z.p.tra.take at').length = at' := by rw [List.length_take]; omega
        have hbelow : ∀ t, t < z.p.tra.length → lvl z.lim t ≤ x' → t < at' := fun t ht hle => by
          rcases Nat.lt_or_ge t at' with h5 | h5
          · exact h5
          · have := (lvl_iff h.ci.srt x' t).2 ⟨hxl, by omega⟩
            omega
        have ht1a : t1 < at' := hbelow t1 ht1 (by omega)
        obtain ⟨hsi, htra'⟩ := hsb.learnLong (c := c') hLits' hnd' (by omega) (by omega) (by rw [bs.1]; exact hn) (by rw [back_lrn]; exact confB_true hconf') (by rw [hhd, htr, htl]) (fun l hl e => by
          rw [htr] at hl
          obtain ⟨s, hs, es⟩ := mem_getD (0 : Int) hl
          rw [htl] at hs
          rw [getD_take hs] at es
          rw [s2', hc0abs] at e
          have := hpi.pos_inj (i := s) (j := a) (by omega) ha (by rw [es, e])
          omega) (fun m hm hne => by
          rw [s2'] at hne
          have hmr : m ∈ x.rest := (List.mem_cons.1 (s1.mem_iff.1 hm)).resolve_left hne
          obtain ⟨t, ht, et, el, -, -⟩ := hrest m hmr
          have hle : lvl z.lim t ≤ x' := by
            obtain ⟨j, hj', ej⟩ := mem_getD (0 : Int) hm
            have hj1 : 1 ≤ j := by
              rcases Nat.eq_zero_or_pos j with h5 | h5
              · subst h5; exact absurd (by rw [← ej, s2']) hne
              · exact h5
            have := s3 j hj1 (by omega)
            rw [ej, el] at this
            simpa using this
          have hta := hbelow t ht hle
          rw [htr, ← et]
          exact mem_take_getD 0 hta ht) (t1 := t1) (by rw [htr, htl]; exact ht1a) (by rw [htr, getD_take ht1a]; exact et1) (by rw [hlm, lvl_take h.ci.srt hxl (by rw [hat']; exact ht1a), hlx, List.length_take]; omega)
        rw [hlml] at hsi htra'
        first
          | exact hsi
          | (refine .inr (.inr ⟨x', c'.getD 0 0, hxl, by omega, ?_, ?_, fun y hy => ?_⟩)
             · have : (((z.back x').learnt c').forced c' x').lim = (z.back x').lim := by unfold SS.forced SS.learnt; split <;> rfl
               rw [this, hlm]
             · rw [htra', htr, hat']
             · have e5 : (((z.back x').learnt c').forced c' x').lim = (z.back x').lim := by unfold SS.forced SS.learnt; split <;> rfl
               rw [e5, hlm] at hy
               obtain ⟨i, hi, ei⟩ := mem_getD (0 : Nat) hy
               rw [List.length_take] at hi
               rw [getD_take (by omega)] at ei
               have := (lvl_iff h.ci.srt i t1).1 (by omega)
               omega)
end
end Go.Proofs.Ytjbdiobnlmhidaa
namespace Go.Proofs.Ytjbdiobnlmhidaa

section
variable {S0 : List (List Int)} {U : List Int} {n : Nat} {z : SS}

theorem lvl_snoc (lim : List Nat) (a t : Nat) : lvl (lim ++ [a]) t = lvl lim t + (if a ≤ t then 1 else 0) := by
  unfold lvl
  rw [List.countP_append, List.countP_singleton]
  by_cases h : a ≤ t
  · simp [h]
  · simp [h]

/-- a decision -/
theorem SI.decide (h : SI S0 U n z) (hhd : z.p.head = z.p.tra.length) {l : Int} (hl : Lit n l) (hnf : ¬ -l ∈ z.p.tra) (hj : (z.lim.length < U.length ∧ l = U.getD z.lim.length 0) ∨ (U.length ≤ z.lim.length ∧ z.p.truth l = 0)) :
    SI S0 U n (z.decide l) ∧ (z.decide l).lim = z.lim ++ [z.p.tra.length] ∧ (z.decide l).lrn = z.lrn ∧ ((z.p.truth l = 0 ∧ (z.decide l).p.tra = z.p.tra ++ [l]) ∨ (z.lim.length < U.length ∧ (z.decide l).p.tra = z.p.tra)) := by
  have hlz : Lit z.p.n l := by rw [h.sj.pn]; exact hl
  have hhn : z.p.head.toNat = z.p.tra.length := by rw [hhd]; simp
  have hsrt : (z.lim ++ [z.p.tra.length]).Pairwise (· ≤ ·) := by
    rw [List.pairwise_append]
    refine ⟨h.sj.ci.srt, by simp, fun a ha b hb => ?_⟩
    obtain rfl : b = z.p.tra.length := by simpa using hb
    have := h.lh a ha; omega
  have hpih : PIh (z.lim ++ [z.p.tra.length]) (fun _ => True) (S0 ++ z.lrn) z.p := by
    have p := h.pih
    refine { wf := p.wf, nd := p.nd, vt := p.vt, h0 := p.h0, h1 := p.h1, hh := p.hh, us := p.us, un := p.un, ws := p.ws, wn := p.wn, cd := p.cd, sl := p.sl, ss := p.ss, rs := p.rs, pr := fun t ht k hk => ?_ }
    obtain ⟨t', q1, q2, q3⟩ := p.pr t ht k hk
    refine ⟨t', q1, q2, fun x hx hxt => ?_⟩
    rcases List.mem_append.1 hx with hx | hx
    · exact q3 x hx hxt
    · obtain rfl : x = z.p.tra.length := by simpa using hx
      omega
  have hlvlO : ∀ t, t < z.p.tra.length → lvl (z.lim ++ [z.p.tra.length]) t = lvl z.lim t := fun t ht => by rw [lvl_snoc, if_neg (by omega)]; rfl
  have hlvlN : lvl (z.lim ++ [z.p.tra.length]) z.p.tra.length = z.lim.length + 1 := by
    rw [lvl_snoc, if_pos (Nat.le_refl _)]
    have h1 : lvl z.lim z.p.tra.length = z.lim.length := lvl_from h.sj.ci.srt (from_le h.sj)
    omega
  have hlbN : ∀ k, k < (z.lim ++ [z.p.tra.length]).length → k ≤ U.length + (z.lim ++ [z.p.tra.length]).getD k 0 := fun k hk => by
    rw [getD_snoc]
    by_cases e : k < z.lim.length
    · rw [if_pos e]; exact h.sj.lb k e
    · have : k = z.lim.length := by simp at hk; omega
      subst this
      rw [if_neg (by omega), if_pos rfl]
      exact h.sj.lt
  have htl := h.pih.tlen
  by_cases h0 : z.p.truth l = 0
  · have ed : z.decide l = { z with lim := z.lim ++ [z.p.tra.length], p := z.p.set l (-1), lev := z.lev.set l.natAbs ((z.lim.length : Int) + 1) } := by unfold SS.decide; rw [if_pos h0]
    have hnabs : ∀ m, m ∈ z.p.tra → m.natAbs ≠ l.natAbs := fun m hm e => by
      have : m = l ∨ m = -l := by omega
      rcases this with rfl | rfl
      · have := (h.pih.vt _ hlz).2 hm; omega
      · exact hnf hm
    have ps := hpih.set (l := l) (why := -1) hlz h0 (.inl ⟨by omega, trivial⟩)
    have htra : (z.p.set l (-1)).tra = z.p.tra ++ [l] := rfl
    have hreaO : ∀ t, t < z.p.tra.length → (z.p.set l (-1)).rea.getD ((z.p.tra ++ [l]).getD t 0).natAbs 0 = z.p.rea.getD (z.p.tra.getD t 0).natAbs 0 := fun t ht => by
      rw [getD_app ht]
      show (z.p.rea.set _ _).getD _ _ = _
      rw [getD_set, if_neg (fun h => hnabs _ (getD_mem ht) h.1.symm)]
    have hlh : ∀ x, x ∈ z.lim ++ [z.p.tra.length] → x ≤ z.p.head.toNat := fun x hx => by
      rcases List.mem_append.1 hx with hx | hx
      · exact h.lh x hx
      · obtain rfl : x = z.p.tra.length := by simpa using hx
        omega
    rw [ed]
    refine ⟨⟨{ ci := { pi := ⟨_, ps, hlh⟩, srt := hsrt, ll := ?_, lv := fun t ht => ?_, dec := fun t ht hr => ?_ }, pn := h.sj.pn, levr := fun y hy => ?_, decU := fun t ht hr j hjU hlv => ?_, und := fun j hjl hU => ?_, rup := h.sj.rup, lb := hlbN, lt := ?_, ul := h.sj.ul }, ps, hlh⟩, rfl, rfl, .inl ⟨h0, rfl⟩⟩
    · show ((z.lev.set _ _).length : Int) = z.p.n + 1
      rw [List.length_set]; exact h.sj.ci.ll
    · have ht' : t < (z.p.tra ++ [l]).length := ht
      show (z.lev.set l.natAbs ((z.lim.length : Int) + 1)).getD ((z.p.tra ++ [l]).getD t 0).natAbs 0 = (lvl (z.lim ++ [z.p.tra.length]) t : Nat)
      by_cases e : t < z.p.tra.length
      · rw [getD_app e, getD_set, if_neg (fun h => hnabs _ (getD_mem e) h.1.symm), hlvlO t e]
        exact h.sj.ci.lv t e
      · have : t = z.p.tra.length := by simp at ht'; omega
        subst this
        rw [getD_snoc, if_neg (by omega), if_pos rfl, getD_set, if_pos ⟨rfl, by have := h.sj.ci.ll; have := hlz.2; omega⟩, hlvlN]
        simp
    · have ht' : t < (z.p.tra ++ [l]).length := ht
      show t ∈ z.lim ++ [z.p.tra.length]
      by_cases e : t < z.p.tra.length
      · have hr' : (z.p.set l (-1)).rea.getD ((z.p.tra ++ [l]).getD t 0).natAbs 0 < 0 := hr
        rw [hreaO t e] at hr'
        exact List.mem_append_left _ (h.sj.ci.dec t e hr')
      · have : t = z.p.tra.length := by simp at ht'; omega
        subst this; simp
    · rcases mem_set hy with hy | rfl
      · exact h.sj.levr y hy
      · have h1 := h.sj.lt
        have h2 := h.sj.ul
        have h4 := h.pih.wf.nmax
        omega
    · have ht' : t < (z.p.tra ++ [l]).length := ht
      show (z.p.tra ++ [l]).getD t 0 = _
      have hlv' : lvl (z.lim ++ [z.p.tra.length]) t = j + 1 := hlv
      by_cases e : t < z.p.tra.length
      · have hr' : (z.p.set l (-1)).rea.getD ((z.p.tra ++ [l]).getD t 0).natAbs 0 < 0 := hr
        rw [hreaO t e] at hr'
        rw [getD_app e]
        rw [hlvlO t e] at hlv'
        exact h.sj.decU t e hr' j hjU hlv'
      · have : t = z.p.tra.length := by simp at ht'; omega
        subst this
        rw [hlvlN] at hlv'
        rw [getD_snoc, if_neg (by omega), if_pos rfl]
        have hjj : j = z.lim.length := by omega
        subst hjj
        rcases hj with ⟨-, hj⟩ | ⟨hj, -⟩
        · exact hj
        · omega
    · have hjl' : j < (z.lim ++ [z.p.tra.length]).length := hjl
      by_cases e : j < z.lim.length
      · obtain ⟨t, t1, t2, t3⟩ := h.sj.und j e hU
        refine ⟨t, by show t < (z.p.tra ++ [l]).length; simp; omega, by show (z.p.tra ++ [l]).getD t 0 = _; rw [getD_app t1]; exact t2, by show lvl (z.lim ++ [z.p.tra.length]) t ≤ _; rw [hlvlO t t1]; exact t3⟩
      · have : j = z.lim.length := by simp at hjl'; omega
        subst this
        refine ⟨z.p.tra.length, by show _ < (z.p.tra ++ [l]).length; simp, ?_, by show lvl (z.lim ++ [z.p.tra.length]) _ ≤ _; rw [hlvlN]; exact Nat.le_refl _⟩
        show (z.p.tra ++ [l]).getD z.p.tra.length 0 = _
        rw [getD_snoc, if_neg (by omega), if_pos rfl]
        rcases hj with ⟨-, hj⟩ | ⟨hj, -⟩
        · exact hj
        · omega
    · show (z.lim ++ [z.p.tra.length]).length ≤ U.length + (z.p.tra ++ [l]).length
      simp; have := h.sj.lt; omega
  · have ed : z.decide l = { z with lim := z.lim ++ [z.p.tra.length] } := by unfold SS.decide; rw [if_neg h0]
    obtain ⟨hjl, hjU⟩ : z.lim.length < U.length ∧ l = U.getD z.lim.length 0 := by
      rcases hj with hj | ⟨-, hj⟩
      · exact hj
      · exact absurd hj h0
    have hlt1 : l ∈ z.p.tra := by
      rcases truth_cases h.pih.wf hlz with e | e | e
      · exact (h.pih.vt _ hlz).1 e
      · exact absurd e h0
      · exact absurd ((h.pih.true_iff hlz).1 e) hnf
    have hlh : ∀ x, x ∈ z.lim ++ [z.p.tra.length] → x ≤ z.p.head.toNat := fun x hx => by
      rcases List.mem_append.1 hx with hx | hx
      · exact h.lh x hx
      · obtain rfl : x = z.p.tra.length := by simpa using hx
        omega
    rw [ed]
    refine ⟨⟨{ ci := { pi := ⟨_, hpih, hlh⟩, srt := hsrt, ll := h.sj.ci.ll, lv := fun t ht => ?_, dec := fun t ht hr => List.mem_append_left _ (h.sj.ci.dec t ht hr) }, pn := h.sj.pn, levr := h.sj.levr, decU := fun t ht hr j hjU' hlv => ?_, und := fun j hjl' hU => ?_, rup := h.sj.rup, lb := hlbN, lt := ?_, ul := h.sj.ul }, hpih, hlh⟩, rfl, rfl, .inr ⟨hjl, rfl⟩⟩
    · show z.lev.getD (z.p.tra.getD t 0).natAbs 0 = (lvl (z.lim ++ [z.p.tra.length]) t : Nat)
      rw [hlvlO t ht]; exact h.sj.ci.lv t ht
    · have hlv' : lvl (z.lim ++ [z.p.tra.length]) t = j + 1 := hlv
      rw [hlvlO t ht] at hlv'
      exact h.sj.decU t ht hr j hjU' hlv'
    · have hjl2 : j < (z.lim ++ [z.p.tra.length]).length := hjl'
      by_cases e : j < z.lim.length
      · obtain ⟨t, t1, t2, t3⟩ := h.sj.und j e hU
        exact ⟨t, t1, t2, by show lvl (z.lim ++ [z.p.tra.length]) t ≤ _; rw [hlvlO t t1]; exact t3⟩
      · have : j = z.lim.length := by simp at hjl2; omega
        subst this
        obtain ⟨t, ht, et⟩ := mem_getD (0 : Int) hlt1
        refine ⟨t, ht, by rw [et]; exact hjU, ?_⟩
        show lvl (z.lim ++ [z.p.tra.length]) t ≤ _
        rw [hlvlO t ht]
        have := lvl_le z.lim t; omega
    · show (z.lim ++ [z.p.tra.length]).length ≤ U.length + z.p.tra.length
      simp; omega
end

/-! the measure: a number of base 3 that every step raises -/
def num : Nat → List Nat → Nat
  | 0, _ => 0
  | _ + 1, [] => 0
  | N + 1, d :: r => d * 3 ^ N + num N r
theorem num_lt : ∀ (N : Nat) (ds : List Nat), (∀ d, d ∈ ds → d ≤ 2) → num N ds < 3 ^ N := by
  intro N
  induction N with
  | zero => intro ds _; cases ds <;> simp [num]
  | succ N ih =>
    intro ds h
    cases ds with
    | nil => simp only [num]; exact Nat.pow_pos (by omega)
    | cons d r =>
      simp only [num]
      have h1 := ih r (fun x hx => h x (by simp [hx]))
      have h2 := h d (by simp)
      have h3 : d * 3 ^ N ≤ 2 * 3 ^ N := Nat.mul_le_mul_right _ h2
      rw [Nat.pow_succ]; omega
theorem num_app_le : ∀ (N : Nat) (p x : List Nat), num N p ≤ num N (p ++ x) := by
  intro N
  induction N with
  | zero => intro p x; simp [num]
  | succ N ih =>
    intro p x
    cases p with
    | nil => simp [num]
    | cons d r => simp only [num, List.cons_append]; have := ih r x; omega
theorem num_snoc_lt : ∀ (N : Nat) (p : List Nat) (d : Nat) (x : List Nat), p.length < N → 1 ≤ d → num N p < num N (p ++ d :: x) := by
  intro N
  induction N with
  | zero => intro p d x h; omega
  | succ N ih =>
    intro p d x h hd
    cases p with
    | nil =>
      simp only [num, List.nil_append]
      have : 1 * 3 ^ N ≤ d * 3 ^ N := Nat.mul_le_mul_right _ hd
      have := Nat.pow_pos (a := 3) (n := N) (by omega)
      omega
    | cons e r =>
      simp only [num, List.cons_append]
      have := ih r d x (by simpa using h) hd
      omega
theorem num_raise : ∀ (N : Nat) (p x : List Nat), p.length < N → (∀ d, d ∈ x → d ≤ 2) → num N (p ++ 1 :: x) < num N (p ++ [2]) := by
  intro N
  induction N with
  | zero => intro p x h; omega
  | succ N ih =>
    intro p x h hx
    cases p with
    | nil =>
      simp only [num, List.nil_append]
      have h1 := num_lt N x hx
      have h2 : num N ([] : List Nat) = 0 := by cases N <;> rfl
      omega
    | cons e r =>
      simp only [num, List.cons_append]
      have := ih r x (by simpa using h) hx
      omega

def digits (lim : List Nat) (len : Nat) : List Nat := (List.range len).map (fun t => if t ∈ lim then 1 else 2)
theorem digits_len (lim : List Nat) (len : Nat) : (digits lim len).length = len := by simp [digits]
theorem digits_le (lim : List Nat) (len : Nat) : ∀ d, d ∈ digits lim len → d ≤ 2 := fun d hd => by
  obtain ⟨t, -, rfl⟩ := List.mem_map.1 hd
  show (if t ∈ lim then 1 else 2) ≤ 2
  split <;> omega
theorem digits_succ (lim : List Nat) (len : Nat) : digits lim (len + 1) = digits lim len ++ [if len ∈ lim then 1 else 2] := by
  unfold digits; rw [List.range_succ, List.map_append]; rfl
theorem digits_more (lim : List Nat) (a b : Nat) : ∃ x, digits lim (a + b) = digits lim a ++ x ∧ ∀ d, d ∈ x → d ≤ 2 := by
  induction b with
  | zero => exact ⟨[], by simp, (fun d hd => by cases hd)⟩
  | succ b ih =>
    obtain ⟨x, e, hx⟩ := ih
    refine ⟨x ++ [if a + b ∈ lim then 1 else 2], by rw [← Nat.add_assoc, digits_succ, e, List.append_assoc], fun d hd => ?_⟩
    rcases List.mem_append.1 hd with hd | hd
    · exact hx d hd
    · obtain rfl := List.mem_singleton.1 hd
      split <;> omega
theorem digits_congr {lim lim' : List Nat} {len : Nat} (h : ∀ t, t < len → (t ∈ lim ↔ t ∈ lim')) : digits lim len = digits lim' len := by
  unfold digits
  refine List.map_congr_left (fun t ht => ?_)
  have := h t (List.mem_range.1 ht)
  by_cases e : t ∈ lim
  · rw [if_pos e, if_pos (this.1 e)]
  · rw [if_neg e, if_neg (fun h => e (this.2 h))]
end Go.Proofs.Ytjbdiobnlmhidaa
namespace Go.Proofs.Ytjbdiobnlmhidaa

/-- the phase of a search: usual; a unit was learned; the empty clause was learned -/
def Pha (S0 : List (List Int)) (n : Nat) (z : SS) (e : Nat) : Prop :=
  e = num n (digits z.lim z.p.tra.length) ∨
  (z.lim = [] ∧ z.p.tra.length < n ∧ e = num n (digits [] z.p.tra.length ++ [2]) ∧ ∃ (k : Nat) (l : Int), (k : Int) ∈ z.p.uni ∧ (S0 ++ z.lrn).getD k [] = [l] ∧ ¬ l ∈ z.p.tra) ∨
  (z.lim = [] ∧ e = 3 ^ n ∧ ∃ k : Nat, (k : Int) ∈ z.p.uni ∧ (S0 ++ z.lrn).getD k [] = [])

structure LI (S0 : List (List Int)) (U : List Int) (n : Nat) (z : SS) (e : Nat) : Prop where
  si : SI S0 U n z
  pha : Pha S0 n z e
  ll : z.lrn.length ≤ e
  lc : ∀ c, c ∈ z.lrn → c.length ≤ 100000000

section
variable {S0 : List (List Int)} {U : List Int} {n : Nat} {z : SS} {e : Nat}

theorem SJ.tlen (h : SJ S0 U n z) : z.p.tra.length ≤ n := by
  obtain ⟨hp, hpi, -⟩ := h.ci.pi
  have := hpi.tlen
  rw [h.pn] at this; omega
theorem SJ.e_lt (h : SJ S0 U n z) : num n (digits z.lim z.p.tra.length) < 3 ^ n := num_lt _ _ (digits_le _ _)

theorem LI.le (h : LI S0 U n z e) : e ≤ 3 ^ n := by
  rcases h.pha with h1 | ⟨-, -, h1, -⟩ | ⟨-, h1, -⟩
  · rw [h1]; exact Nat.le_of_lt (num_lt _ _ (digits_le _ _))
  · rw [h1]; exact Nat.le_of_lt (num_lt _ _ (fun d hd => by
      rcases List.mem_append.1 hd with hd | hd
      · exact digits_le _ _ d hd
      · obtain rfl := List.mem_singleton.1 hd; omega))
  · omega

theorem attach_lrn (z : SS) (c : List Int) : (z.attach c).lrn = z.lrn ++ [(arrange z.lev c).1] := by
  unfold SS.attach SS.forced SS.learnt
  split
  · show (z.back _).lrn ++ [_] = _; rw [back_lrn]
  · show (z.back _).lrn ++ [_] = _; rw [back_lrn]

/-- what a round's deducing gives -/
theorem LI.deduce (h : LI S0 U n z e) (hn : n ≤ 10000000) (hcl : z.p.cls.length < 100000000) : ∃ res, PS.propagate (n + 1) z.p = some res ∧ res.1.n = z.p.n ∧ WF res.1 ∧ z.from ≤ res.1.tra.length ∧ SJ S0 U n (z.deduced res.1) ∧
    (res.2 = true → ∃ e1, e ≤ e1 ∧ e1 = num n (digits z.lim res.1.tra.length) ∧ LI S0 U n (z.deduced res.1) e1 ∧ res.1.head = res.1.tra.length ∧ (∀ k : Nat, (k : Int) ∈ res.1.uni → ∃ x, x ∈ res.1.tra ∧ x ∈ (S0 ++ z.lrn).getD k [])) ∧
    (res.2 = false → ∃ F : Nat, res.1.fal = F ∧ F < res.1.cls.length ∧ (∀ m, m ∈ res.1.cls.getD F [] → -m ∈ res.1.tra) ∧ ((0 < z.lim.length) → ∀ c, Learnt (z.deduced res.1) F c → ∃ e2, e < e2 ∧ LI S0 U n ((z.deduced res.1).attach c) e2)) := by
  obtain ⟨res, r1, r2, r3, r4, r5, r6, r7, r8⟩ := h.si.deduce
  refine ⟨res, r1, r2, r3, r4, r6, fun hr => ?_, fun hr => ?_⟩
  · obtain ⟨s1, s2, s3⟩ := r7 hr
    have htl : res.1.tra.length ≤ n := r6.tlen
    have hlen := r5.len
    have hge : e ≤ num n (digits z.lim res.1.tra.length) := by
      rcases h.pha with h1 | ⟨h1, h2, h3, k, l, h4, h5, h6⟩ | ⟨h1, h2, k, h4, h5⟩
      · obtain ⟨x, ex, -⟩ := digits_more z.lim z.p.tra.length (res.1.tra.length - z.p.tra.length)
        rw [show z.p.tra.length + (res.1.tra.length - z.p.tra.length) = res.1.tra.length from by omega] at ex
        rw [h1, ex]; exact num_app_le _ _ _
      · obtain ⟨y, hy1, hy2⟩ := s3 k (by rw [r5.uni]; exact h4)
        rw [h5] at hy2
        obtain rfl : y = l := by simpa using hy2
        have hlt : z.p.tra.length + 1 ≤ res.1.tra.length := by
          rcases Nat.lt_or_ge z.p.tra.length res.1.tra.length with hh | hh
          · exact hh
          · exfalso
            obtain ⟨s, es⟩ := r5.tra
            have : s = [] := by
              have : s.length = 0 := by have := congrArg List.length es; rw [List.length_append] at this; omega
              exact List.eq_nil_of_length_eq_zero this
            rw [es, this, List.append_nil] at hy1
            exact h6 hy1
        obtain ⟨x, ex, -⟩ := digits_more z.lim (z.p.tra.length + 1) (res.1.tra.length - (z.p.tra.length + 1))
        rw [show z.p.tra.length + 1 + (res.1.tra.length - (z.p.tra.length + 1)) = res.1.tra.length from by omega, digits_succ, h1] at ex
        rw [h3, h1, ex]
        simp only [List.not_mem_nil, if_false]
        exact num_app_le _ _ _
      · obtain ⟨y, hy1, hy2⟩ := s3 k (by rw [r5.uni]; exact h4)
        rw [h5] at hy2
        cases hy2
    exact ⟨_, hge, rfl, ⟨s1, .inl rfl, Nat.le_trans h.ll hge, h.lc⟩, s2, s3⟩
  · obtain ⟨F, b1, b2, b3⟩ := r8 hr
    refine ⟨F, b1, b2, b3, fun hlim c hc => ?_⟩
    have hclz : (z.deduced res.1).p.cls.length < 100000000 := by show res.1.cls.length < _; rw [r5.cl]; exact hcl
    obtain ⟨g1, g2, g3⟩ := r6.attach (F := F) hlim b2 b3 hc hclz hn
    have hA : e = num n (digits z.lim z.p.tra.length) := by
      rcases h.pha with h1 | ⟨h1, -⟩ | ⟨h1, -⟩
      · exact h1
      · rw [h1] at hlim; simp at hlim
      · rw [h1] at hlim; simp at hlim
    have hlen := r5.len
    have htl : res.1.tra.length ≤ n := r6.tlen
    have hge : e ≤ num n (digits z.lim res.1.tra.length) := by
      obtain ⟨x, ex, -⟩ := digits_more z.lim z.p.tra.length (res.1.tra.length - z.p.tra.length)
      rw [show z.p.tra.length + (res.1.tra.length - z.p.tra.length) = res.1.tra.length from by omega] at ex
      rw [hA, ex]; exact num_app_le _ _ _
    have hsrt := h.si.sj.ci.srt
    have hlc : ∀ d, d ∈ ((z.deduced res.1).attach c).lrn → d.length ≤ 100000000 := fun d hd => by
      rw [attach_lrn] at hd
      rcases List.mem_append.1 hd with hd | hd
      · exact h.lc d hd
      · obtain rfl := List.mem_singleton.1 hd
        rcases hc with ⟨rfl, -⟩ | ⟨top, x, a, hje, -, rfl⟩
        · show ([] : List Int).length ≤ _; simp
        · have hp := (arrange_spec (z.deduced res.1).lev (-((z.deduced res.1).p.tra.getD a 0) :: x.rest) (by simp)).1.length_eq
          rw [hp]
          have := hje.1.restlen r6.ci
          have h9 := r6.pn
          rw [h9] at this
          simp only [List.length_cons]; omega
    -- position a = limit x is a decision's
    have key : ∀ (a : Nat) (lim' : List Nat), a ∈ z.lim → a < res.1.tra.length → (∀ t, t < a → (t ∈ lim' ↔ t ∈ z.lim)) → num n (digits z.lim res.1.tra.length) < num n (digits lim' a ++ [2]) := fun a lim' ha hlt hcg => by
      obtain ⟨x, ex, hx⟩ := digits_more z.lim (a + 1) (res.1.tra.length - (a + 1))
      rw [show a + 1 + (res.1.tra.length - (a + 1)) = res.1.tra.length from by omega, digits_succ, if_pos ha, List.append_assoc] at ex
      rw [ex, digits_congr hcg]
      exact num_raise n _ x (by rw [digits_len]; omega) hx
    rcases g3 with ⟨q1, k, q2, q3⟩ | ⟨q1, q2, q3, k, l, q4, q5, q6⟩ | ⟨x, l, q1, q2, q3, q4, q5⟩
    · have h3 : num n (digits z.lim res.1.tra.length) < 3 ^ n := num_lt _ _ (digits_le _ _)
      exact ⟨3 ^ n, by omega, g1, .inr (.inr ⟨q1, rfl, k, q2, q3⟩), by rw [g2]; have := h.ll; show z.lrn.length + 1 ≤ _; omega, hlc⟩
    · have q3' : z.lim.getD 0 0 < res.1.tra.length := q3
      have hk := key (z.lim.getD 0 0) [] (getD_mem hlim) q3' (fun t ht => ⟨(fun h => by cases h), fun hm => by
        obtain ⟨i, hi, ei⟩ := mem_getD (0 : Nat) hm
        have := lim_le (z := z) hsrt (i := 0) (j := i) (Nat.zero_le _) hi
        omega⟩)
      have hlt : ((z.deduced res.1).attach c).p.tra.length = z.lim.getD 0 0 := by
        rw [q2]
        show (res.1.tra.take (z.lim.getD 0 0)).length = _
        rw [List.length_take]; omega
      refine ⟨_, Nat.lt_of_le_of_lt hge hk, g1, .inr (.inl ⟨q1, by rw [hlt]; omega, by rw [hlt], k, l, q4, q5, q6⟩), ?_, hlc⟩
      rw [g2]; have := h.ll; show z.lrn.length + 1 ≤ _; omega
    · have q2' : z.lim.getD x 0 < res.1.tra.length := q2
      have q3' : ((z.deduced res.1).attach c).lim = z.lim.take x := q3
      have q1' : x < z.lim.length := q1
      have hk := key (z.lim.getD x 0) (z.lim.take x) (getD_mem q1') q2' (fun t ht => ⟨fun hm => List.mem_of_mem_take hm, fun hm => by
        obtain ⟨i, hi, ei⟩ := mem_getD (0 : Nat) hm
        rcases Nat.lt_or_ge i x with h5 | h5
        · rw [← ei, ← getD_take (k := x) h5]
          exact getD_mem (by rw [List.length_take]; omega)
        · have := lim_le (z := z) hsrt (i := x) (j := i) h5 hi
          omega⟩)
      have hlt : ((z.deduced res.1).attach c).p.tra.length = z.lim.getD x 0 + 1 := by
        rw [q4, List.length_append]
        show (res.1.tra.take (z.lim.getD x 0)).length + 1 = _
        rw [List.length_take]; omega
      refine ⟨_, Nat.lt_of_le_of_lt hge hk, g1, .inl ?_, ?_, hlc⟩
      · rw [hlt, q3', digits_succ, if_neg (fun hm => by have := q5 _ (by rw [q3']; exact hm); exact absurd this (Nat.lt_irrefl _))]
      · rw [g2]; have := h.ll; show z.lrn.length + 1 ≤ _; omega

/-- a decision raises the number, or opens a level for an assumption -/
theorem LI.decide (h : LI S0 U n z e) (he : e = num n (digits z.lim z.p.tra.length)) (hhd : z.p.head = z.p.tra.length) {l : Int} (hl : Lit n l) (hnf : ¬ -l ∈ z.p.tra) (hj : (z.lim.length < U.length ∧ l = U.getD z.lim.length 0) ∨ (U.length ≤ z.lim.length ∧ z.p.truth l = 0)) :
    ∃ e2, LI S0 U n (z.decide l) e2 ∧ (e < e2 ∨ (e = e2 ∧ z.lim.length < U.length ∧ (z.decide l).lim.length = z.lim.length + 1)) := by
  obtain ⟨d1, d2, d3, d4⟩ := h.si.decide hhd hl hnf hj
  have htl := d1.sj.tlen
  have hcg : digits (z.lim ++ [z.p.tra.length]) z.p.tra.length = digits z.lim z.p.tra.length := digits_congr (fun t ht => by simp; omega)
  rcases d4 with ⟨-, d4⟩ | ⟨d4, d5⟩
  · rw [d4] at htl
    rw [List.length_append, List.length_singleton] at htl
    have e2 : num n (digits (z.decide l).lim (z.decide l).p.tra.length) = num n (digits z.lim z.p.tra.length ++ [1]) := by
      rw [d2, d4, List.length_append, List.length_singleton, digits_succ, hcg, if_pos (by simp)]
    have hlt : e < num n (digits (z.decide l).lim (z.decide l).p.tra.length) := by
      rw [e2, he]
      exact num_snoc_lt n _ 1 [] (by rw [digits_len]; omega) (by omega)
    exact ⟨_, ⟨d1, .inl rfl, by rw [d3]; exact Nat.le_trans h.ll (Nat.le_of_lt hlt), by rw [d3]; exact h.lc⟩, .inl hlt⟩
  · have e2 : e = num n (digits (z.decide l).lim (z.decide l).p.tra.length) := by rw [d2, d5, hcg]; exact he
    exact ⟨e, ⟨d1, .inl e2, by rw [d3]; exact h.ll, by rw [d3]; exact h.lc⟩, .inr ⟨rfl, d4, by rw [d2]; simp⟩⟩
end
end Go.Proofs.Ytjbdiobnlmhidaa
namespace Go.Proofs.Ytjbdiobnlmhidaa

section
variable {S0 : List (List Int)} {U : List Int} {n : Nat} {z : SS} {e : Nat}

theorem SJ.ok (h : SJ S0 U n z) (hn : n ≤ 10000000) (hS : S0.length ≤ 10000000) (hl : z.lrn.length ≤ 10000000) : SOk z := by
  obtain ⟨hp, hpi, -⟩ := h.ci.pi
  have hsl := hpi.sl
  rw [List.length_append] at hsl
  have htl := h.tlen
  have hub := hpi.uniB
  refine ⟨hpi.wf, h.ci.ll, h.levr, ?_, fun x hx => h.limr hx, by omega, by omega, by omega, fun r hr => ?_, by omega⟩
  · have h1 := h.lt
    have h2 := h.ul
    omega
  · obtain ⟨j, hj, ej⟩ := mem_getD ([] : List Int) hr
    have := hpi.rowsB j
    rw [ej] at this; omega

theorem SJ.litsL (h : SJ S0 U n z) : LitsL n z.lrn := fun c hc x hx => by
  obtain ⟨hp, hpi, -⟩ := h.ci.pi
  obtain ⟨i, hi, ei⟩ := mem_getD ([] : List Int) hc
  have hsl := hpi.sl
  rw [List.length_append] at hsl
  have e1 : (S0 ++ z.lrn).getD (S0.length + i) [] = c := by
    simp only [List.getD_eq_getElem?_getD, List.getElem?_append_right (Nat.le_add_right _ _), Nat.add_sub_cancel_left]
    simpa [List.getD_eq_getElem?_getD] using ei
  have hx' := (hpi.ss (S0.length + i) x).2 (by rw [e1]; exact hx)
  have := hpi.wf.lit _ (getD_mem (d := []) (i := S0.length + i) (by omega)) x hx'
  exact ⟨this.1, by have := this.2; rw [h.pn] at this; omega⟩

/-- nothing is decided: a conflict refutes the clauses -/
theorem SJ.zero (h : SJ S0 U n z) (hlim : z.lim = []) {F : Nat} (hF : F < z.p.cls.length) (hFf : ∀ m, m ∈ z.p.cls.getD F [] → -m ∈ z.p.tra) : Conf (S0 ++ z.lrn) [] := by
  refine h.ci.zero hF hFf (fun m hm => ?_)
  obtain ⟨t, ht, et⟩ := mem_getD (0 : Int) (hFf m hm)
  have := h.ci.lv t ht
  rw [et, Int.natAbs_neg, hlim] at this
  exact this

/-- the decisions are assumptions -/
theorem SJ.decs (h : SJ S0 U n z) (hlt : z.lim.length < U.length) : ∀ t, t < z.p.tra.length → z.p.rea.getD (z.p.tra.getD t 0).natAbs 0 < 0 → z.p.tra.getD t 0 ∈ U := fun t ht hr => by
  have hd := h.ci.dec t ht hr
  have h1 := lvl_pos hd
  have h2 := lvl_le z.lim t
  have := h.decU t ht hr (lvl z.lim t - 1) (by omega) (by omega)
  rw [this]
  exact getD_mem (by omega)

def valsB (z : SS) (n : Nat) : List Bool := (List.range n).map (fun v => decide (0 < z.p.val.getD (v + 1) 0))
theorem valsB_len (z : SS) (n : Nat) : (valsB z n).length = n := by simp [valsB]
theorem valsB_get (z : SS) {n v : Nat} (h : v < n) : (valsB z n).getD v false = decide (0 < z.p.val.getD (v + 1) 0) := by simp [valsB, h]

theorem trueL_iff (h : SI S0 U n z) {l : Int} (hl : Lit n l) (hset : z.p.val.getD l.natAbs 0 ≠ 0) : (trueL (valsB z n) l = true ↔ l ∈ z.p.tra) := by
  have hlz : Lit z.p.n l := by rw [h.sj.pn]; exact hl
  rw [← h.pih.vt l hlz]
  have hr := (h.pih.wf.litOk hlz).rng
  have h1 := hl.1
  have h2 := hl.2
  have hv : (valsB z n).getD (l.natAbs - 1) false = decide (0 < z.p.val.getD l.natAbs 0) := by
    rw [valsB_get z (by omega), show l.natAbs - 1 + 1 = l.natAbs from by omega]
  unfold trueL PS.truth
  rw [hv]
  generalize z.p.val.getD l.natAbs 0 = y at *
  have hy : y = 1 ∨ y = -1 := by omega
  by_cases hneg : l < 0
  · have hp : ¬ 0 < l := by omega
    rcases hy with rfl | rfl <;> simp [hneg, hp]
  · have hp : 0 < l := by omega
    rcases hy with rfl | rfl <;> simp [hneg, hp]

/-- all variables have values, nothing follows any more: the values satisfy everything -/
theorem SI.sat (h : SI S0 U n z) (hhd : z.p.head = z.p.tra.length) (hu : ∀ k : Nat, (k : Int) ∈ z.p.uni → ∃ x, x ∈ z.p.tra ∧ x ∈ (S0 ++ z.lrn).getD k []) (hall : ∀ v : Nat, 1 ≤ v → (v : Int) ≤ z.p.n → z.p.val.getD v 0 ≠ 0)
    (hU : ∀ x, x ∈ U → Lit n x) (hlim : U.length ≤ z.lim.length) (hS : LitsL n S0) : satB (valsB z n) S0 U = true := by
  have hset : ∀ l : Int, Lit n l → z.p.val.getD l.natAbs 0 ≠ 0 := fun l hl => by
    have h1 := hl.1
    exact hall _ (by omega) (by rw [h.sj.pn]; exact hl.2)
  unfold satB
  rw [Bool.and_eq_true, List.all_eq_true, List.all_eq_true]
  refine ⟨fun c hc => ?_, fun l hl => ?_⟩
  · obtain ⟨k, hk, ek⟩ := mem_getD ([] : List Int) hc
    have e1 : (S0 ++ z.lrn).getD k [] = c := by rw [getD_app hk]; exact ek
    have hcl := (PI.closed h.pih hhd hu (k := k) (by rw [List.length_append]; omega)).2
    rw [e1] at hcl
    unfold trueB
    rw [List.any_eq_true]
    have : ∃ m, m ∈ c ∧ ¬ -m ∈ z.p.tra := by
      refine Classical.byContradiction (fun hno => hcl (fun m hm => Classical.byContradiction (fun hn => hno ⟨m, hm, hn⟩)))
    obtain ⟨m, hm, hnm⟩ := this
    have hml : Lit n m := ⟨(hS c hc m hm).1, by have := (hS c hc m hm).2; omega⟩
    have hmz : Lit z.p.n m := by rw [h.sj.pn]; exact hml
    refine ⟨m, hm, (trueL_iff h hml (hset m hml)).2 ?_⟩
    rcases truth_cases h.pih.wf hmz with e | e | e
    · exact (h.pih.vt _ hmz).1 e
    · exfalso
      have := hset m hml
      unfold PS.truth at e
      split at e <;> omega
    · exact absurd ((h.pih.true_iff hmz).1 e) hnm
  · obtain ⟨j, hj, ej⟩ := mem_getD (0 : Int) hl
    obtain ⟨t, ht, et, -⟩ := h.sj.und j (by omega) hj
    have hll := hU l hl
    refine (trueL_iff h hll (hset l hll)).2 ?_
    rw [← ej, ← et]
    exact getD_mem ht
end
end Go.Proofs.Ytjbdiobnlmhidaa
