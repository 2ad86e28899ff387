/- Proved here: Propagate, Check and Rup answer as the plain functions say. Conditions: those that each theorem states. -/
import Derived.Test.YtjbdiobnlmhidaaA1
import Derived.Test.YtjbdiobnlmhidaaA6
import Derived.Test.YtjbdiobnlmhidaaA2
set_option linter.unusedVariables false
set_option linter.unusedSimpArgs false
namespace Go.Proofs.Ytjbdiobnlmhidaa

/-- Drop: the last clause is removed -/
def PS.drop (p : PS) : PS :=
  let q := p.reset
  let i := q.cls.length - 1
  let d := q.cls.getD i []
  let q1 := { q with cls := q.cls.take i }
  if d.length < 2 then { q1 with uni := q1.uni.take (q1.uni.length - 1) }
  else
    let q2 := q1.putWatch (d.getD 0 0) ((q1.watch (d.getD 0 0)).erase (i : Int))
    q2.putWatch (d.getD 1 0) ((q2.watch (d.getD 1 0)).erase (i : Int))

theorem watch_drop {q : PS} (h : WF q) (hn : 0 < q.cls.length) (hd : ∀ j, j < (q.cls.getD (q.cls.length - 1) []).length → ((((q.cls.getD (q.cls.length - 1) []).getD j 0).natAbs : Int) ≤ q.n)) (hnd : (q.cls.getD (q.cls.length - 1) []).Nodup) {x : Int} (hx : (x.natAbs : Int) ≤ q.n) :
    (q.drop).watch x = if 2 ≤ (q.cls.getD (q.cls.length - 1) []).length ∧ (x = (q.cls.getD (q.cls.length - 1) []).getD 0 0 ∨ x = (q.cls.getD (q.cls.length - 1) []).getD 1 0) then (q.watch x).erase ((q.cls.length - 1 : Nat) : Int) else q.watch x := by
  have h0 := h.n0
  have hw := h.wat
  unfold PS.drop
  dsimp only
  have ec : q.reset.cls = q.cls := rfl
  rw [ec]
  by_cases hl : (q.cls.getD (q.cls.length - 1) []).length < 2
  · rw [if_pos hl, if_neg (by omega)]; rfl
  · rw [if_neg hl]
    have h1 := hd 0 (by omega)
    have h2 := hd 1 (by omega)
    have hne := nodup_getD hnd (i := 0) (j := 1) (by omega) (by omega) (by omega)
    have h2l : 2 ≤ (q.cls.getD (q.cls.length - 1) []).length := by omega
    generalize (q.cls.getD (q.cls.length - 1) []).getD 0 0 = a at *
    generalize (q.cls.getD (q.cls.length - 1) []).getD 1 0 = b at *
    generalize hi : ((q.cls.length - 1 : Nat) : Int) = i at *
    have put : ∀ (p : PS) (l y : Int) (r : List Int), p.n = q.n → p.wat.length = q.wat.length → (l.natAbs : Int) ≤ q.n → (y.natAbs : Int) ≤ q.n → (p.putWatch l r).watch y = if y = l then r else p.watch y := fun p l y r en ew hl hy => by
      have e : (p.putWatch l r).watch y = (p.wat.set (p.n + l).toNat r).getD (p.n + y).toNat [] := rfl
      rw [e, getD_set, en]
      by_cases ex : y = l
      · subst ex; rw [if_pos ⟨rfl, by omega⟩, if_pos rfl]
      · rw [if_neg (fun h => ex (by have := h.1; omega)), if_neg ex]
        show _ = p.wat.getD (p.n + y).toNat []
        rw [en]
    have hba : ¬ b = a := fun e => hne e.symm
    obtain ⟨Q, hQ⟩ : ∃ Q : PS, Q = ({ q.reset with cls := q.cls.take (q.cls.length - 1) } : PS) := ⟨_, rfl⟩
    have hQn : Q.n = q.n := by rw [hQ]; rfl
    have hQw : Q.wat.length = q.wat.length := by rw [hQ]; rfl
    have hQx : ∀ y, Q.watch y = q.watch y := fun y => by rw [hQ]; rfl
    rw [← hQ, put (Q.putWatch a ((Q.watch a).erase i)) b x _ hQn (by show (Q.wat.set _ _).length = _; simp; exact hQw) h2 hx, put Q a b _ hQn hQw h1 h2, put Q a x _ hQn hQw h1 hx, hQx, hQx, hQx]
    by_cases ea : x = a
    · have eb : ¬ x = b := fun e => hne (ea.symm.trans e)
      subst ea
      simp only [eb, h2l, if_true, if_false, true_or, and_self]
    · by_cases eb : x = b
      · subst eb
        simp only [ea, h2l, if_true, if_false, or_true, and_self]
      · simp only [ea, eb, if_false, or_self, and_false]

theorem drop_same (q : PS) : (q.drop).cls = q.cls.take (q.cls.length - 1) ∧ (q.drop).n = q.n ∧ (q.drop).val = q.reset.val ∧ (q.drop).rea = q.rea ∧ (q.drop).tra = [] ∧ (q.drop).head = 0 ∧ (q.drop).fal = -1 ∧ (q.drop).clash = 0 ∧ (q.drop).wat.length = q.wat.length ∧
    (q.drop).uni = if (q.cls.getD (q.cls.length - 1) []).length < 2 then q.uni.take (q.uni.length - 1) else q.uni := by
  unfold PS.drop
  dsimp only
  split
  · rename_i h
    have h' : (q.cls.getD (q.cls.length - 1) []).length < 2 := h
    rw [if_pos h']
    exact ⟨rfl, rfl, rfl, rfl, rfl, rfl, rfl, rfl, rfl, rfl⟩
  · rename_i h
    have h' : ¬ (q.cls.getD (q.cls.length - 1) []).length < 2 := h
    rw [if_neg h']
    exact ⟨rfl, rfl, rfl, rfl, rfl, rfl, rfl, rfl, by simp [PS.putWatch]; rfl, rfl⟩

theorem getD_takeL {α : Type} (l : List α) (k t : Nat) (d : α) : (l.take k).getD t d = if t < k then l.getD t d else d := by
  simp only [List.getD_eq_getElem?_getD, List.getElem?_take]
  split <;> rfl

/-- the last short clause is at the end of the list of short clauses -/
theorem PI.uni_last {L : List Nat} {As : Int → Prop} {S : List (List Int)} {hp : Nat} {wt : Int → List Int} {q : PS} (h : PI L As S hp wt q) (hn : 0 < q.cls.length) (hl : (q.cls.getD (q.cls.length - 1) []).length < 2) : ∃ u, q.uni = u ++ [((q.cls.length - 1 : Nat) : Int)] := by
  have hm := (h.us (q.cls.length - 1) (by omega)).1 hl
  obtain ⟨a, b, e⟩ := List.append_of_mem hm
  have hp := h.un
  rw [e, List.pairwise_append, List.pairwise_cons] at hp
  rcases b with _ | ⟨y, b⟩
  · exact ⟨a, e⟩
  · have h1 := hp.2.1.1 y (by simp)
    obtain ⟨k, e2, hk⟩ := h.wf.uni y (by rw [e]; simp)
    omega

theorem PI.drop {L L' : List Nat} {As As' : Int → Prop} {S : List (List Int)} {c : List Int} {hp : Nat} {q : PS} (h : PI L As (S ++ [c]) hp q.watch q) : PI L' As' S 0 (q.drop).watch (q.drop) := by
  have hlen : q.cls.length = S.length + 1 := by have := h.sl; simpa using this
  obtain ⟨ecls, en, eval_, erea, etra, ehead, efal, eclash, ewl, euni⟩ := drop_same q
  have hn : 0 < q.cls.length := by omega
  have hdl := h.wf.lit _ (getD_mem (d := ([] : List Int)) (i := q.cls.length - 1) (by omega))
  have hwd := fun x hx => watch_drop (x := x) h.wf hn (fun j hj => (hdl _ (getD_mem hj)).2) (h.cd _) hx
  have hr := h.reset (L' := L') (As' := As')
  have hgc : ∀ k, (q.drop).cls.getD k [] = if k < q.cls.length - 1 then q.cls.getD k [] else [] := fun k => by rw [ecls, getD_takeL]
  have hcl : (q.drop).cls.length = q.cls.length - 1 := by rw [ecls]; simp
  have hws : ∀ l : Int, (l.natAbs : Int) ≤ q.n → ∀ i : Int, i ∈ (q.drop).watch l ↔ i ∈ q.watch l ∧ i ≠ ((q.cls.length - 1 : Nat) : Int) := fun l hl i => by
    rw [hwd l hl]
    split
    · rw [(h.wn l hl).mem_erase_iff]
      exact ⟨fun h => ⟨h.2, h.1⟩, fun h => ⟨h.2, h.1⟩⟩
    · rename_i hno
      constructor
      · intro hm
        refine ⟨hm, fun e => hno ?_⟩
        rw [e] at hm
        exact ((h.ws l hl _).1 hm).2
      · exact fun h => h.1
  have hus : ∀ i : Int, i ∈ (q.drop).uni ↔ i ∈ q.uni ∧ i ≠ ((q.cls.length - 1 : Nat) : Int) := fun i => by
    rw [euni]
    split
    · rename_i hl
      obtain ⟨u, e⟩ := h.uni_last hn hl
      have hp := h.un
      rw [e, List.pairwise_append] at hp
      rw [e]
      have e2 : (u ++ [((q.cls.length - 1 : Nat) : Int)]).take ((u ++ [((q.cls.length - 1 : Nat) : Int)]).length - 1) = u := by
        rw [List.length_append, List.length_singleton, Nat.add_sub_cancel, take_len]
      rw [e2]
      constructor
      · intro hm
        have := hp.2.2 i hm ((q.cls.length - 1 : Nat) : Int) (by simp)
        exact ⟨by simp [hm], by omega⟩
      · rintro ⟨hm, hne⟩
        rcases List.mem_append.1 hm with hm | hm
        · exact hm
        · exact absurd (List.mem_singleton.1 hm) hne
    · rename_i hl
      constructor
      · intro hm
        refine ⟨hm, fun e => hl ?_⟩
        rw [e] at hm
        exact (h.us _ (by omega)).2 hm
      · exact fun h => h.1
  have hwf : WF (q.drop) := by
    refine ⟨by rw [en]; exact h.wf.n0, by rw [en]; exact h.wf.nmax, by rw [eval_, en]; exact hr.wf.val, by rw [erea, en]; exact h.wf.rea, by rw [ewl, en]; exact h.wf.wat, by rw [eval_]; exact hr.wf.rng, fun d hd x hx => ?_, fun d hd => ?_, by rw [hcl]; have := h.wf.cnum; omega, fun r hr i hi => ?_, fun i hi => ?_, fun l hl => by rw [etra] at hl; cases hl⟩
    · rw [en]; rw [ecls] at hd; exact h.wf.lit d (List.mem_of_mem_take hd) x hx
    · rw [ecls] at hd; exact h.wf.clen d (List.mem_of_mem_take hd)
    · obtain ⟨j, hj, e⟩ := mem_getD [] hr
      have hw := h.wf.wat
      rw [ewl] at hj
      have hx : (((j : Int) - q.n).natAbs : Int) ≤ q.n := by omega
      have ew : (q.drop).watch ((j : Int) - q.n) = r := by
        show (q.drop).wat.getD ((q.drop).n + ((j : Int) - q.n)).toNat [] = r
        rw [en, show (q.n + ((j : Int) - q.n)).toNat = j from by omega]
        exact e
      rw [← ew, hws _ hx] at hi
      obtain ⟨k, e1, e2, e3⟩ := h.wf.entry hi.1
      have : k < q.cls.length - 1 := by have := hi.2; omega
      exact ⟨k, e1, by rw [hcl]; exact this, by rw [hgc, if_pos this]; exact e3⟩
    · rw [hus] at hi
      obtain ⟨k, e1, e2⟩ := h.wf.uni i hi.1
      exact ⟨k, e1, by rw [hcl]; have := hi.2; omega⟩
  have etr : ∀ l, (q.drop).truth l = q.reset.truth l := fun l => by unfold PS.truth; rw [eval_]
  exact {
    wf := hwf
    nd := by rw [etra]; exact List.nodup_nil
    vt := fun l hl => by rw [etr, etra]; rw [en] at hl; exact hr.vt l hl
    h0 := by rw [ehead]; exact Int.le_refl _
    h1 := by rw [ehead, etra]; exact Int.le_refl _
    hh := by rw [ehead]; exact Int.le_refl _
    us := fun k hk => by
      rw [hcl] at hk
      rw [hgc, if_pos hk, hus, h.us k (by omega)]
      constructor
      · intro hm; exact ⟨hm, by omega⟩
      · exact fun h => h.1
    un := by
      rw [euni]
      split
      · exact h.un.sublist (List.take_sublist _ _)
      · exact h.un
    ws := fun l hl k => by
      rw [en] at hl
      rw [hws l hl, h.ws l hl, hcl, hgc]
      constructor
      · rintro ⟨⟨a, b, c⟩, d⟩
        have : k < q.cls.length - 1 := by omega
        rw [if_pos this]
        exact ⟨this, b, c⟩
      · rintro ⟨a, b⟩
        rw [if_pos a] at b
        exact ⟨⟨by omega, b⟩, by omega⟩
    wn := fun l hl => by
      rw [en] at hl
      rw [hwd l hl]
      split
      · exact (h.wn l hl).erase _
      · exact h.wn l hl
    cd := fun k => by
      rw [hgc]
      split
      · exact h.cd k
      · exact List.nodup_nil
    sl := by rw [hcl]; omega
    ss := fun k x => by
      rw [hgc]
      have hss := h.ss k x
      rw [getD_snoc] at hss
      split
      · rename_i e
        rw [hss, if_pos (by omega)]
      · rename_i e
        rw [getD_out (l := S) (by omega)]
    rs := fun t ht => by rw [etra] at ht; exact absurd ht (Nat.not_lt_zero _)
    pr := fun t ht => absurd ht (Nat.not_lt_zero _) }
end Go.Proofs.Ytjbdiobnlmhidaa
namespace Go.Proofs.Ytjbdiobnlmhidaa

/-- the variables of a clause are marked -/
def markL (seen : List Bool) (c : List Int) : List Bool := c.foldl (fun s l => s.set l.natAbs true) seen
theorem markL_len : ∀ (c : List Int) (s : List Bool), (markL s c).length = s.length := by
  intro c
  induction c with
  | nil => intro s; rfl
  | cons l r ih => intro s; show (markL (s.set _ _) r).length = _; rw [ih]; simp
theorem markL_get : ∀ (c : List Int) (s : List Bool) (v : Nat), (∀ l, l ∈ c → l.natAbs < s.length) → ((markL s c).getD v false = true ↔ s.getD v false = true ∨ ∃ l, l ∈ c ∧ l.natAbs = v) := by
  intro c
  induction c with
  | nil => intro s v _; simp [markL]
  | cons l r ih =>
    intro s v h
    show (markL (s.set _ _) r).getD v false = true ↔ _
    rw [ih _ _ (fun x hx => by simp; exact h x (by simp [hx])), getD_set]
    have hl := h l (by simp)
    constructor
    · rintro (h1 | ⟨x, hx, e⟩)
      · split at h1
        · rename_i e; exact .inr ⟨l, by simp, e.1⟩
        · exact .inl h1
      · exact .inr ⟨x, by simp [hx], e⟩
    · rintro (h1 | ⟨x, hx, e⟩)
      · left
        split
        · rfl
        · exact h1
      · rcases List.mem_cons.1 hx with rfl | hx
        · left; rw [if_pos ⟨e, hl⟩]
        · exact .inr ⟨x, hx, e⟩

/-- the search for the causes of a conflict, down to place k of the trail -/
structure CInv (q : PS) (i0 k : Nat) (seen : List Bool) (out : List Int) : Prop where
  sl : (seen.length : Int) = q.n + 1
  oc : ∀ i, i ∈ out → ∃ j : Nat, i = j ∧ j < q.cls.length
  i0 : (i0 : Int) ∈ out
  ob : ∀ j : Nat, (j : Int) ∈ out → ∀ m, m ∈ q.cls.getD j [] → seen.getD m.natAbs false = true
  os : ∀ t, k ≤ t → t < q.tra.length → seen.getD (q.tra.getD t 0).natAbs false = true → q.rea.getD (q.tra.getD t 0).natAbs 0 < 0 ∨ q.rea.getD (q.tra.getD t 0).natAbs 0 ∈ out
  len : out.length + k ≤ q.tra.length + 1

section
variable {L : List Nat} {As : Int → Prop} {S : List (List Int)} {hp : Nat} {wt : Int → List Int} {q : PS}

theorem PI.lits_lt (h : PI L As S hp wt q) {seen : List Bool} (hs : (seen.length : Int) = q.n + 1) {j : Nat} (hj : j < q.cls.length) : ∀ l, l ∈ q.cls.getD j [] → l.natAbs < seen.length := fun l hl => by
  have := (h.wf.lit _ (getD_mem (d := []) hj) l hl).2
  omega

theorem CInv.start (h : PI L As S hp wt q) {seen : List Bool} (hs : (seen.length : Int) = q.n + 1) {i0 : Nat} (hi : i0 < q.cls.length) : CInv q i0 q.tra.length (markL seen (q.cls.getD i0 [])) [(i0 : Int)] where
  sl := by rw [markL_len]; exact hs
  oc i hi' := ⟨i0, by simpa using hi', hi⟩
  i0 := by simp
  ob j hj m hm := by
    obtain rfl : j = i0 := by have := List.mem_singleton.1 hj; omega
    rw [markL_get _ _ _ (h.lits_lt hs hi)]
    exact .inr ⟨m, hm, rfl⟩
  os t h1 h2 := by omega
  len := by simp; omega

theorem CInv.mark (h : PI L As S hp wt q) {i0 k : Nat} {seen : List Bool} {out : List Int} (c : CInv q i0 (k + 1) seen out) (hk : k < q.tra.length) {j : Nat} (hj : q.rea.getD (q.tra.getD k 0).natAbs 0 = j) :
    j < q.cls.length ∧ CInv q i0 k (markL seen (q.cls.getD j [])) (out ++ [(j : Int)]) := by
  obtain ⟨hjl, hmem, hoth⟩ : j < q.cls.length ∧ q.tra.getD k 0 ∈ q.cls.getD j [] ∧ ∀ m, m ∈ q.cls.getD j [] → m ≠ q.tra.getD k 0 → -m ∈ q.tra.take k := by
    rcases h.rs k hk with ⟨h1, -⟩ | ⟨j', h1, h2, h3, h4⟩
    · omega
    · obtain rfl : j' = j := by omega
      exact ⟨h2, h3, h4⟩
  have hg := fun v => markL_get (q.cls.getD j []) seen v (h.lits_lt c.sl hjl)
  refine ⟨hjl, ⟨by rw [markL_len]; exact c.sl, fun i hi => ?_, by simp [c.i0], fun j' hj' m hm => ?_, fun t h1 h2 h3 => ?_, by have := c.len; simp; omega⟩⟩
  · rcases List.mem_append.1 hi with hi | hi
    · exact c.oc i hi
    · exact ⟨j, by simpa using hi, hjl⟩
  · rw [hg]
    rcases List.mem_append.1 hj' with hj' | hj'
    · exact .inl (c.ob j' hj' m hm)
    · obtain rfl : j' = j := by have := List.mem_singleton.1 hj'; omega
      exact .inr ⟨m, hm, rfl⟩
  · by_cases e : t = k
    · subst e; rw [hj]; exact .inr (by simp)
    · rw [hg] at h3
      have old : seen.getD (q.tra.getD t 0).natAbs false = true := by
        rcases h3 with h3 | ⟨m, hm, e2⟩
        · exact h3
        · exfalso
          by_cases em : m = q.tra.getD k 0
          · exact e (h.pos_inj h2 hk (by rw [← e2, em]))
          · obtain ⟨t', ht', e3⟩ := mem_getD 0 (hoth m hm em)
            simp at ht'
            rw [getD_take (by omega)] at e3
            have := h.pos_inj h2 (j := t') (by omega) (by rw [e3, ← e2, Int.natAbs_neg])
            omega
      rcases c.os t (by omega) h2 old with h4 | h4
      · exact .inl h4
      · exact .inr (List.mem_append.2 (.inl h4))

theorem CInv.skip {i0 k : Nat} {seen : List Bool} {out : List Int} (c : CInv q i0 (k + 1) seen out) (hn : ¬ (seen.getD (q.tra.getD k 0).natAbs false = true ∧ 0 ≤ q.rea.getD (q.tra.getD k 0).natAbs 0)) : CInv q i0 k seen out :=
  ⟨c.sl, c.oc, c.i0, c.ob, fun t h1 h2 h3 => by
    by_cases e : t = k
    · subst e
      left
      rcases Int.lt_or_le (q.rea.getD (q.tra.getD t 0).natAbs 0) 0 with h | h
      · exact h
      · exact absurd ⟨h3, h⟩ hn
    · exact c.os t (by omega) h2 h3, by have := c.len; omega⟩

/-- the clauses found suffice for the conflict -/
theorem CInv.conf (h : PI L As S hp wt q) {A : List Int} (hAs : ∀ l, l ∈ q.tra → As l → l ∈ A) {i0 : Nat} {seen : List Bool} {out : List Int} (c : CInv q i0 0 seen out) (hb : ∀ m, m ∈ q.cls.getD i0 [] → -m ∈ q.tra) :
    Conf (out.map (fun i => S.getD i.toNat [])) A := by
  have hmem : ∀ j : Nat, (j : Int) ∈ out → S.getD j [] ∈ out.map (fun i => S.getD i.toNat []) := fun j hj => List.mem_map.2 ⟨j, hj, by simp⟩
  have key : ∀ n t, t < n → t < q.tra.length → seen.getD (q.tra.getD t 0).natAbs false = true → Der (out.map (fun i => S.getD i.toNat [])) A (q.tra.getD t 0) := by
    intro n
    induction n with
    | zero => intro t ht; omega
    | succ n ih =>
      intro t ht hl hs
      have hr := c.os t (Nat.zero_le _) hl hs
      rcases h.rs t hl with ⟨h1, h2⟩ | ⟨j, h1, h2, h3, h4⟩
      · exact .asm (hAs _ (getD_mem hl) h2)
      · have hj : (j : Int) ∈ out := by
          rcases hr with hr | hr
          · omega
          · rw [h1] at hr; exact hr
        refine .uni (hmem j hj) ((h.ss j _).1 h3) fun m hm hne => ?_
        have hm' := (h.ss j m).2 hm
        obtain ⟨t', ht', e⟩ := mem_getD 0 (h4 m hm' hne)
        simp at ht'
        rw [getD_take (by omega)] at e
        have := ih t' (by omega) (by omega) (by rw [e, Int.natAbs_neg]; exact c.ob j hj m hm')
        rwa [e] at this
  refine .inr ⟨_, hmem i0 c.i0, fun m hm => ?_⟩
  have hm' := (h.ss i0 m).2 hm
  obtain ⟨t, ht, e⟩ := mem_getD 0 (hb m hm')
  have := key (t + 1) t (by omega) ht (by rw [e, Int.natAbs_neg]; exact c.ob i0 c.i0 m hm')
  rwa [e] at this
end
end Go.Proofs.Ytjbdiobnlmhidaa
namespace Go.Proofs.Ytjbdiobnlmhidaa
open Go Go.RowKit

theorem nodup_ints {l : List Int} {n : Nat} (h : l.Nodup) (hb : ∀ x, x ∈ l → ∃ k : Nat, x = k ∧ k < n) : l.length ≤ n := by
  have h1 : (l.map Int.toNat).Nodup := by
    unfold List.Nodup
    rw [List.pairwise_map]
    refine List.Pairwise.imp_of_mem (fun {a b} ha hb' hne => ?_) h
    obtain ⟨k, rfl, -⟩ := hb a ha
    obtain ⟨j, rfl, -⟩ := hb b hb'
    omega
  have := nodup_range n 0 _ h1 (fun x hx => by
    obtain ⟨a, ha, rfl⟩ := List.mem_map.1 hx
    obtain ⟨k, rfl, hk⟩ := hb a ha
    omega)
  simpa using this

/-- the weak invariant: all that a walk asks -/
def WI (S : List (List Int)) (q : PS) : Prop := PI [] (fun _ => True) S 0 q.watch q

theorem PI.wi {L : List Nat} {As : Int → Prop} {S : List (List Int)} {hp : Nat} {q : PS} (h : PI L As S hp q.watch q) : WI S q :=
  ((h.as (As' := fun _ => True) (fun _ _ _ => trivial)).less (Nat.zero_le _)).lessL (fun x hx => by cases hx)

theorem PI.rowsB {L : List Nat} {As : Int → Prop} {S : List (List Int)} {hp : Nat} {q : PS} (h : PI L As S hp q.watch q) (j : Nat) : (q.wat.getD j []).length ≤ q.cls.length := by
  by_cases hj : j < q.wat.length
  · obtain ⟨x, hx, e⟩ := h.wf.rowGet (getD_mem (d := []) hj)
    rw [← e]
    exact nodup_ints (h.wn x hx) fun i hi => by
      obtain ⟨k, e1, e2, -⟩ := h.wf.entry hi
      exact ⟨k, e1, e2⟩
  · rw [getD_out (by omega)]; simp
theorem PI.uniB {L : List Nat} {As : Int → Prop} {S : List (List Int)} {hp : Nat} {wt : Int → List Int} {q : PS} (h : PI L As S hp wt q) : q.uni.length ≤ q.cls.length :=
  nodup_ints (h.un.imp fun {a b} hlt e => by omega) fun i hi => h.wf.uni i hi

theorem WI.step (S : List (List Int)) : StepInv (WI S) where
  wf q h := h.wf
  tb q h := by have h1 := PI.tlen h; have h2 := h.wf.nmax; omega
  rows q h j := Nat.le_trans (PI.rowsB h j) h.wf.cnum
  ub q h := Nat.le_trans (PI.uniB h) h.wf.cnum
  unit q i h hi := by
    obtain ⟨k, rfl, -⟩ := h.wf.uni i hi
    exact (unit_inv h hi).1
  head q h := h.h0
  neg q h hlt := by
    have h0 := h.h0
    have hm := getD_mem (d := (0 : Int)) (l := q.tra) (i := q.head.toNat) (by omega)
    have hl := h.wf.tra _ hm
    rw [truth_negl hl.1, (h.vt _ hl).2 hm]
    omega
  visit q h hlt := (visit_inv h hlt (fun x hx => by cases hx)).pi

/-- block g is a propagator with the clauses S; its blocks lie from base on, below top -/
def PropW (X : PS → Prop) (base top : Nat) (w : World) (S : List (List Int)) (n g : Nat) : Prop :=
  ∃ R u q, Rep R w g 68 [] u q ∧ WI S q ∧ q.n = n ∧ (∀ b r, R b = some r → base ≤ b ∧ b < top) ∧ X q ∧ base ≤ w.heap.size ∧ top ≤ w.heap.size

theorem PropW.below {X : PS → Prop} {base top : Nat} {w w' : World} {S : List (List Int)} {n g : Nat} (h : PropW X base top w S n g) (hb : Below w.heap.size w w') : PropW X base top w' S n g := by
  obtain ⟨R, u, q, h1, h2, h3, h4, h5, h6, h7⟩ := h
  have k := Below.toChg h1.dom hb (fun _ => False)
  exact ⟨R, u, q, h1.chg k (fun _ _ _ h => h) (h1.dom.chg k), h2, h3, h4, h5, Nat.le_trans h6 hb.size, Nat.le_trans h7 hb.size⟩
theorem chg_below {S : Role → Prop} {R R' : Roles} {w w' : World} {base : Nat} (k : Chg S R w R' w') (hR : ∀ b r, R b = some r → base ≤ b) (hs : base ≤ w.heap.size) : Below base w w' :=
  ⟨k.os, k.tape, k.output, k.size, fun b hb => k.kept b (by omega) fun r hr _ => by have := hR b r hr; omega⟩
theorem chg_ge {S : Role → Prop} {R R' : Roles} {w w' : World} {base : Nat} (k : Chg S R w R' w') (hR : ∀ b r, R b = some r → base ≤ b) (hs : base ≤ w.heap.size) : ∀ b r, R' b = some r → base ≤ b := fun b r hr => by
  by_cases e : b < w.heap.size
  · rw [k.old b e] at hr; exact hR b r hr
  · omega

def AddW (base : Nat) (S : List (List Int)) (n g : Nat) (w : World) (e : Ending) (w' : World) : Prop :=
  e = .returned (.tuple #[]) ∧ PropW (fun _ => True) base w'.heap.size w' S n g ∧ Below base w w'

theorem prop_add {X : PS → Prop} {base top : Nat} {w : World} {S : List (List Int)} {n g : Nat} (h : PropW X base top w S n g) {B : Nat → Prop} {v : Value} {c : List Int} (hv : RdS w B v (ints c)) (hc : Lits n c) (hl : c.length ≤ 100000000) (hS : S.length < 100000000) :
    Calls Try.prog 45 #[.pointer (some ⟨g, 0, none⟩), v] w (AddW base (S ++ [c]) n g w) := by
  obtain ⟨R, u, q, h1, h2, h3, h4, h5, h6, h7⟩ := h
  have hwf := h2.wf
  have hcl : q.cls.length = S.length := h2.sl
  have hw := hwf.wat
  have hnm := hwf.nmax
  have hc' : Lits q.n.toNat c := by rw [h3]; simpa using hc
  refine (add_calls h1 hv (by omega) (by omega) (by have := PI.uniB h2; omega) (fun x hx => by have := hc x hx; omega) (by omega) (fun r hr => by
    obtain ⟨j, hj, e⟩ := mem_getD [] hr
    have := PI.rowsB h2 j
    rw [e] at this; omega)).mono ?_
  rintro e w' ⟨rfl, R', u', r1, k1⟩
  have hge := fun b r hr => (h4 b r hr).1
  refine ⟨rfl, ⟨R', u', _, r1, (PI.add h2 hc' hl (by omega)).1, by rw [(add_same q c).2.1]; exact h3, fun b r hr => ⟨chg_ge k1 hge h6 b r hr, r1.dom b r hr⟩, trivial, Nat.le_trans h6 k1.size, Nat.le_refl _⟩, chg_below k1 hge h6⟩

def RefOk (S : List (List Int)) (A : List Int) (q : PS) : Prop := PI [] (· ∈ A) S 0 q.watch q ∧ (confB S A = false → ∀ l, Der S A l ↔ l ∈ q.tra) ∧ (confB S A = true → (q.fal = -1 ∧ ∃ x, x ∈ A ∧ -x ∈ A) ∨ Bad q)
def RefW (base : Nat) (S : List (List Int)) (A : List Int) (n g : Nat) (w : World) (e : Ending) (w' : World) : Prop :=
  e = .returned (.bool (confB S A)) ∧ PropW (RefOk S A) base w'.heap.size w' S n g ∧ Below base w w'

theorem prop_refutes {X : PS → Prop} {base top : Nat} {w : World} {S : List (List Int)} {n g : Nat} (h : PropW X base top w S n g) {v : Value} {A : List Int} (hv : RdS w (fun b => b < base ∨ top ≤ b) v (ints A)) (hA : Lits n A) (hl : A.length ≤ 100000000) :
    Calls Try.prog 36 #[.pointer (some ⟨g, 0, none⟩), v] w (RefW base S A n g w) := by
  obtain ⟨R, u, q, h1, h2, h3, h4, h5, h6, h7⟩ := h
  have hA' : ∀ x, x ∈ A → Lit q.n x := fun x hx => by have := hA x hx; exact ⟨this.1, by omega⟩
  have hge := fun b r hr => (h4 b r hr).1
  obtain ⟨ha, res, e1, e2⟩ := refutes_inv h2 hA'
  have ht := PI.tlen h2
  have hnm := h2.wf.nmax
  refine (refutes_calls (WI.step S) h1 h2.wf (by omega) (hv.mono fun b _ hb => ?_) hA' hl ha.wi e1).mono ?_
  · show R b = none
    rcases e : R b with _ | r
    · rfl
    · have := h4 b r e; omega
  rintro e w' ⟨rfl, R', u', r1, k1⟩
  have hb : res.2 = confB S A := by
    rcases hr : res.2 with _ | _
    · rw [confB_false (e2.ok hr).2]
    · rw [confB_true (e2.bad hr).1]
  refine ⟨ret_bool hb, ⟨R', u', _, r1, e2.pi.wi, by rw [e2.n]; exact h3, fun b r hr => ⟨chg_ge k1 hge h6 b r hr, r1.dom b r hr⟩, ⟨e2.pi, fun hf => (e2.ok (by rw [hb]; exact hf)).1, fun ht => (e2.bad (by rw [hb]; exact ht)).2⟩, Nat.le_trans h6 k1.size, Nat.le_refl _⟩, chg_below k1 hge h6⟩

theorem valuesGo_eq (p : PS) : ∀ (r k : Nat), 1 ≤ k → p.valuesGo r k (valsL p.val (k - 1)) = valsL p.val (k + r - 1) := by
  intro r
  induction r with
  | zero => intro k hk; rfl
  | succ r ih =>
    intro k hk
    have e := valsL_step p.val hk
    unfold PS.valuesGo
    rw [← e]
    have := ih (k + 1) (by omega)
    rw [Nat.add_sub_cancel] at this
    rw [this]
    congr 1
    omega
theorem values_eq {p : PS} : p.values = valsL p.val p.n.toNat := by
  unfold PS.values
  have := valuesGo_eq p p.n.toNat 1 (Nat.le_refl _)
  have e : valsL p.val (1 - 1) = [] := rfl
  rw [e] at this
  rw [this]
  congr 1
  omega

theorem PI.val_iff {L : List Nat} {As : Int → Prop} {S : List (List Int)} {hp : Nat} {wt : Int → List Int} {q : PS} (h : PI L As S hp wt q) {l : Int} (hl : Lit q.n l) : q.val.getD l.natAbs 0 = sg l ↔ l ∈ q.tra := by
  rw [← h.vt l hl]
  unfold PS.truth sg
  split <;> omega

theorem prop_values {X : PS → Prop} {base top : Nat} {w : World} {S : List (List Int)} {n g : Nat} {A : List Int} (h : PropW X base top w S n g) (hX : ∀ q, X q → ∀ l, Der S A l ↔ l ∈ q.tra) (hS : LitsL n S) (hA : Lits n A) :
    Calls Try.prog 37 #[.pointer (some ⟨g, 0, none⟩)] w (NewPost w 3 (ints (closeL n S A))) := by
  obtain ⟨R, u, q, h1, h2, h3, h4, h5, h6, h7⟩ := h
  have e : q.values = closeL n S A := by
    rw [values_eq, show q.n.toNat = n from by omega]
    refine closeL_eq (fun i => ?_) (fun l hl => ?_) (fun l hl0 hv => ?_)
    · by_cases hi : i < q.val.length
      · exact h2.wf.rng _ (getD_mem hi)
      · rw [getD_out (by omega)]; omega
    · have hlit := hl.lit hS hA
      exact (PI.val_iff h2 ⟨hlit.1, by omega⟩).2 ((hX q h5 l).1 hl)
    · by_cases hn : l.natAbs ≤ n
      · exact (hX q h5 l).2 ((PI.val_iff h2 ⟨hl0, by omega⟩).1 hv)
      · rw [getD_out (by have := h2.wf.val; omega)] at hv
        have := sg_ne l; omega
  rw [← e]
  exact values_calls h1 h2.wf

def NewW (S : List (List Int)) (n : Nat) (w : World) (e : Ending) (w' : World) : Prop := ∃ g, e = .returned (.pointer (some ⟨g, 0, none⟩)) ∧ PropW (fun _ => True) w.heap.size w'.heap.size w' S n g ∧ Below w.heap.size w w'

theorem newprop_W (n : Nat) (hn : n ≤ 100000000) (w : World) : Calls Try.prog 52 #[.int .i64 n] w (NewW [] n w) := by
  refine (newprop_calls n hn w).mono ?_
  rintro e w' ⟨g, R, u, rfl, r1, r2, r3⟩
  exact ⟨g, rfl, ⟨R, u, _, r1, init_PI n hn _ _, rfl, fun b r hr => ⟨r2 b r hr, r1.dom b r hr⟩, trivial, r3.size, Nat.le_refl _⟩, r3⟩
end Go.Proofs.Ytjbdiobnlmhidaa
namespace Go.Proofs.Ytjbdiobnlmhidaa
open Go Go.RowKit

theorem LitsL.take {n : Nat} {S : List (List Int)} (h : LitsL n S) (k : Nat) : LitsL n (S.take k) := fun c hc => h c (List.mem_of_mem_take hc)

set_option maxHeartbeats 4000000 in
theorem propagator_calls {w : World} {B : Nat → Prop} {v : Value} {S : List (List Int)} (h : RdSS w B v S) (n : Nat) (hn : n ≤ 100000000) (hS : LitsL n S) (hSl : S.length ≤ 10000000) (hl : ∀ c, c ∈ S → c.length ≤ 100000000) :
    Calls Try.prog 35 #[.int .i64 n, v] w (NewW S n w) := by
  obtain ⟨a1, c1, rfl, h1, hc1⟩ := h.form
  unfold maxLen at hc1
  have H := Lib.hid h
  have HS := Lib.hid hS
  have HL := Lib.hid hl
  have HN := Lib.hid (newprop_W n hn w)
  clear h hS hl
  go_enter Try.func35, Try.ntmps35
  go_wp2_with (go_at_call 52; refine HN.out.mono ?_; rintro e w1 ⟨g, rfl, q1, b1⟩; have HP := Lib.hid q1; have HB := Lib.hid b1; clear q1 b1 HN)
  go_loopg [12] S.length (fun kq v12 w' => ∃ k : Nat, v12 = .int .i64 k ∧ k + kq = S.length ∧ Hid (PropW (fun _ => True) w.heap.size w'.heap.size w' (S.take k) n g) ∧ Hid (Below w.heap.size w w'))
  case atStart => exact ⟨0, rfl, by omega, HP.out, HB.out⟩
  case round =>
    clear HP HB
    obtain ⟨k, rfl, hk, HP, HB⟩ := hrel
    by_cases hlt : k < S.length
    · obtain ⟨b, o, a', c', rfl, kcell, hr, hl1, hl2⟩ := (H.out.below HB.out).at hlt
      have hm := getD_mem (d := ([] : List Int)) hlt
      have HC := Lib.hid (prop_add HP.out hr (HS.out _ hm) (HL.out _ hm) (by simp; omega))
      rw [take_one hlt] at HC
      generalize S.getD k [] = x at *
      unfold maxLen at hl2
      clear hr hm HP
      go_wp2_with (go_at_call 45; refine HC.out.mono ?_; rintro e w5 ⟨rfl, q5, b5⟩; have HP5 := Lib.hid q5; have HB5 := Lib.hid (HB.out.trans b5); clear q5 b5 HC HB)
      go_roundg (gk - 1)
      case measure => omega
      case rel => exact ⟨k + 1, by go_num, by omega, HP5, HB5⟩
    · obtain rfl : k = S.length := by omega
      rw [List.take_length] at HP
      go_wp2
      go_ret
      exact ⟨g, rfl, HP.out, HB.out⟩

theorem RdSS.one {w w1 : World} {B : Nat → Prop} {v : Value} {l : List Int} (h : RdS w B v (ints l)) (e : w1 = w.alloc (.cells #[v] 23)) : RdSS w1 (fun _ => True) (.slice (some ⟨w.heap.size, 0, none⟩) 1 1) [l] := by
  subst e
  exact ⟨[v], (RdS.one_new w v 23).mono fun _ _ _ => trivial, rfl, fun i hi => by
    obtain rfl : i = 0 := by simp at hi; omega
    exact h.kept (by simp) fun b hlt _ => ⟨trivial, Below.heap_alloc _ _ _ hlt⟩⟩

set_option maxHeartbeats 4000000 in
theorem sPropagate_calls {w : World} {B B2 : Nat → Prop} {v v2 : Value} {S : List (List Int)} {A : List Int} (h : RdSS w B v S) (h2 : RdS w B2 v2 (ints A)) (n : Int) (hl : ∀ c, c ∈ S → c.length ≤ 100000000) (hAl : A.length ≤ 100000000) :
    Calls Try.prog 15 #[.int .i64 n, v, v2] w (PropPost w (propL n S A) (propOk n S A) (propErr n S A)) := by
  obtain ⟨a1, c1, rfl, h1, hc1⟩ := h.form
  obtain ⟨a2, c2, rfl, h1', hc2⟩ := h2.form
  rw [ints_length] at *
  unfold maxLen at hc1 hc2
  have h3 := (Below.refl w.heap.size w).alloc (Nat.le_refl _) (.cells #[.slice a2 A.length c2] 23)
  have HC := Lib.hid (valid_calls (h.below h3) (RdSS.one h2 rfl) n)
  have H := Lib.hid (h.below h3)
  have H2 := Lib.hid (h2.lt.kept (B' := fun b => b < w.heap.size) h3.size fun b hlt hb => ⟨hb, h3.block b hlt⟩)
  have HB := Lib.hid h3
  have HL := Lib.hid hl
  clear h h2 h3 hl
  rcases hv : validB n S with _ | _
  · have HV := Lib.hid hv
    rw [hv] at HC
    simp only [Bool.false_and] at HC
    clear hv
    go_enter Try.func15, Try.ntmps15
    go_wp2_with (go_at_call 34; refine HC.out.mono ?_; rintro e w' ⟨rfl, rfl⟩)
    go_ret3
    refine ⟨none, 0, 0, ?_, ?_, HB.out⟩
    · simp [propOk, propErr, HV.out]
    · rw [show propL n S A = [] from by simp [propL, HV.out]]; exact World.ownsRow_nil _ w.heap.size 3 1
  · obtain ⟨m, rfl, hm, hSl, hS⟩ := valid_cases hv
    have HV := Lib.hid hv
    have HS := Lib.hid hS
    rw [hv] at HC
    have e1 : clsB m [A] = litsB m A := by simp [clsB]
    rw [e1] at HC
    simp only [Bool.true_and] at HC
    clear hv hS e1
    rcases ha : litsB m A with _ | _
    · rw [ha] at HC
      have HA := Lib.hid ha
      clear ha
      go_enter Try.func15, Try.ntmps15
      go_wp2_with (go_at_call 34; refine HC.out.mono ?_; rintro e w' ⟨rfl, rfl⟩)
      go_ret3
      refine ⟨none, 0, 0, ?_, ?_, HB.out⟩
      · simp [propOk, propErr, HV.out, HA.out]
      · rw [show propL m S A = [] from by simp [propL, HA.out]]; exact World.ownsRow_nil _ w.heap.size 3 1
    · rw [ha] at HC
      have HA := Lib.hid ha
      clear ha
      have HP := Lib.hid (propagator_calls H.out m (by omega) (litsL_of_B HS.out) (by omega) HL.out)
      have ea2 : (w.alloc (.cells #[.slice a2 A.length c2] 23)).heap.size = w.heap.size + 1 := by simp
      rcases hcf : confB S A with _ | _
      · have HCF := Lib.hid hcf
        clear hcf
        go_enter Try.func15, Try.ntmps15
        go_wp2_with (first | (go_at_call 34; refine HC.out.mono ?_; rintro e w' ⟨rfl, rfl⟩) | (go_at_call 35; refine HP.out.mono ?_; rintro e w5 ⟨g, rfl, q5, b5⟩; have HR := Lib.hid (prop_refutes q5 ((H2.out.below b5).mono fun b _ hb => .inl (by omega)) (lits_of_B HA.out) hAl); unfold RefW at HR; rw [HCF.out] at HR; have HB5 := Lib.hid (HB.out.trans (b5.mono (by omega))); clear q5 b5 HP) | (go_at_call 36; refine HR.out.mono ?_; rintro e w6 ⟨rfl, q6, b6⟩; have HV6 := Lib.hid (prop_values q6 (fun q hq => hq.2.1 HCF.out) (litsL_of_B HS.out) (lits_of_B HA.out)); have HB6 := Lib.hid (HB5.out.trans (b6.mono (by omega))); clear q6 b6 HR) | (go_at_call 37; refine HV6.out.mono ?_; rintro e w7 ⟨va, vn, vc, rfl, o7, b7⟩; have HO7 := Lib.hid (And.intro o7 b7); clear o7 b7 HV6))
        go_ret3
        have hs6 := HB6.out.size
        refine ⟨va, vn, vc, ?_, ?_, HB6.out.trans (HO7.out.2.mono (by omega))⟩
        · rw [propOk, propErr, HV.out, HA.out, HCF.out]; rfl
        · rw [show propL m S A = closeL m S A from by rw [propL, if_pos ⟨HV.out, HA.out, HCF.out⟩]; rfl]
          exact ownsRow_base HO7.out.1 fun b hb => by have := (World.ownsRow.lt HO7.out.1 b hb).1; omega
      · have HCF := Lib.hid hcf
        clear hcf
        go_enter Try.func15, Try.ntmps15
        go_wp2_with (first | (go_at_call 34; refine HC.out.mono ?_; rintro e w' ⟨rfl, rfl⟩) | (go_at_call 35; refine HP.out.mono ?_; rintro e w5 ⟨g, rfl, q5, b5⟩; have HR := Lib.hid (prop_refutes q5 ((H2.out.below b5).mono fun b _ hb => .inl (by omega)) (lits_of_B HA.out) hAl); unfold RefW at HR; rw [HCF.out] at HR; have HB5 := Lib.hid (HB.out.trans (b5.mono (by omega))); clear q5 b5 HP) | (go_at_call 36; refine HR.out.mono ?_; rintro e w6 ⟨rfl, q6, b6⟩; have HB6 := Lib.hid (HB5.out.trans (b6.mono (by omega))); clear q6 b6 HR))
        go_ret3
        refine ⟨none, 0, 0, ?_, ?_, HB6.out⟩
        · rw [propOk, propErr, HV.out, HA.out, HCF.out]; rfl
        · rw [show propL m S A = [] from by rw [propL, if_neg (by simp [HCF.out])]]; exact World.ownsRow_nil _ w.heap.size 3 1
end Go.Proofs.Ytjbdiobnlmhidaa
namespace Go.Proofs.Ytjbdiobnlmhidaa
open Go Go.RowKit

theorem RdS.belowB {base : Nat} {w w' : World} {v : Value} {xs : List Value} (h : RdS w (fun b => b < base) v xs) (hb : Below base w w') : RdS w' (fun b => b < base) v xs := h.kept hb.size fun b _ hlt => ⟨hlt, hb.block b hlt⟩
theorem RdSS.belowB {base : Nat} {w w' : World} {v : Value} {ll : List (List Int)} (h : RdSS w (fun b => b < base) v ll) (hb : Below base w w') : RdSS w' (fun b => b < base) v ll := h.kept hb.size fun b _ hlt => ⟨hlt, hb.block b hlt⟩

noncomputable def rupF : List (List Int) → List (List Int) → Nat → Bool
  | _, [], _ => true
  | S, c :: r, 0 => rupB S c && rupF (S ++ [c]) r 0
  | S, c :: r, k + 1 => rupF (S ++ [c]) r k
theorem rupF_zero : ∀ (P S : List (List Int)), rupF S P 0 = rupAll S P := by
  intro P
  induction P with
  | nil => intro S; rfl
  | cons c r ih => intro S; show (rupB S c && rupF (S ++ [c]) r 0) = _; rw [ih]; rfl
theorem rupF_step {S P : List (List Int)} {k f : Nat} (h : k < P.length) : rupF (S ++ P.take k) (P.drop k) (f - k) = if f ≤ k then (rupB (S ++ P.take k) (P.getD k []) && rupF (S ++ P.take (k + 1)) (P.drop (k + 1)) (f - (k + 1))) else rupF (S ++ P.take (k + 1)) (P.drop (k + 1)) (f - (k + 1)) := by
  rw [drop_cons [] h, ← take_one h, ← List.append_assoc]
  split
  · rename_i e
    rw [show f - k = 0 from by omega, show f - (k + 1) = 0 from by omega]; rfl
  · rename_i e
    rw [show f - k = (f - (k + 1)) + 1 from by omega]; rfl
noncomputable def provesF (S P : List (List Int)) (f : Nat) : Bool := lastB P && rupF S P f

theorem neg_ok {n : Nat} {c : List Int} (h : Lits n c) (hn : n ≤ 100000000) : ∀ x ∈ c, -1000000000000000 ≤ x ∧ x ≤ 1000000000000000 := fun x hx => by have := h x hx; omega

set_option maxHeartbeats 8000000 in
theorem Proves_calls {w : World} {B B2 : Nat → Prop} {v v2 : Value} {S P : List (List Int)} (h : RdSS w B v S) (h2 : RdSS w B2 v2 P) (n f : Nat) (hn : n ≤ 100000000) (hS : LitsL n S) (hP : LitsL n P) (hSl : S.length ≤ 10000000) (hPl : P.length ≤ 10000000) (hl : ∀ c, c ∈ S → c.length ≤ 100000000) (hl2 : ∀ c, c ∈ P → c.length ≤ 100000000) (hf : f ≤ 100000000) :
    Calls Try.prog 41 #[.int .i64 n, v, v2, .int .i64 f] w (BoolPost w (provesF S P f)) := by
  obtain ⟨a1, c1, rfl, h1, hc1⟩ := h.form
  obtain ⟨a2, c2, rfl, h1', hc2⟩ := h2.form
  unfold maxLen at hc1 hc2
  have H := Lib.hid h.lt
  have H2 := Lib.hid h2.lt
  have HS := Lib.hid hS
  have HP := Lib.hid hP
  have HL := Lib.hid hl
  have HL2 := Lib.hid hl2
  have HN := Lib.hid (newprop_W n hn w)
  by_cases hp : P.length = 0
  · have HLB : Hid (provesF S P f = false) := by show _ = _; rw [provesF, lastB, hp]; rfl
    have b0 : ((P.length : Int) == 0) = true := by simp [hp]
    clear hl hl2 hS hP h2 h
    go_enter Try.func41, Try.ntmps41
    go_wp2
    go_ret
    exact ⟨ret_bool HLB.out.symm, Below.refl _ _⟩
  · obtain ⟨b, o, a', c', rfl, kcell, -, hl1, hl2'⟩ := H2.out.at (i := P.length - 1) (by omega)
    have b0 : ((P.length : Int) == 0) = false := by simp [hp]
    have en : ((P.length : Int) - 1).toNat = P.length - 1 := by omega
    have hpp : 0 < P.length := by omega
    unfold maxLen at hl2'
    by_cases hlast : (P.getD (P.length - 1) []).length = 0
    case neg =>
      have HLB : Hid (provesF S P f = false) := by show _ = _; rw [provesF, lastB, decide_eq_false hlast, Bool.and_false]; rfl
      have hlp : (((P.getD (P.length - 1) []).length : Int) != 0) = true := by simp; exact fun e => hlast (by simp [e])
      generalize (P.getD (P.length - 1) []).length = z at *
      clear hl hl2 hS hP h2 h hp hlast
      go_enter Try.func41, Try.ntmps41
      go_wp2
      go_ret
      exact ⟨ret_bool HLB.out.symm, Below.refl _ _⟩
    case pos =>
      have HLB : Hid (provesF S P f = rupF S P f) := by show _ = _; rw [provesF, lastB, decide_eq_true hlast, decide_eq_true hp]; rfl
      rw [hlast] at kcell
      clear hl1 hl2' hlast hl hl2 hS hP h2 h hp
      go_enter Try.func41, Try.ntmps41
      go_wp2_with (go_at_call 52; refine HN.out.mono ?_; rintro e w1 ⟨g, rfl, q1, b1⟩; have HPR := Lib.hid q1; have HB := Lib.hid b1; clear q1 b1 HN)
      go_loopg [31] S.length (fun kq v31 w' => ∃ k : Nat, v31 = .int .i64 k ∧ k + kq = S.length ∧ Hid (PropW (fun _ => True) w.heap.size w'.heap.size w' (S.take k) n g) ∧ Hid (Below w.heap.size w w'))
      case atStart => exact ⟨0, rfl, by omega, HPR.out, HB.out⟩
      case round =>
        clear HPR HB
        obtain ⟨k, rfl, hk, HPR, HB⟩ := hrel
        by_cases hlt : k < S.length
        · obtain ⟨b', o', a', c', rfl, kcell', hr, hl1, hl2⟩ := (H.out.belowB HB.out).at hlt
          have hm := getD_mem (d := ([] : List Int)) hlt
          have HC := Lib.hid (prop_add HPR.out hr (HS.out _ hm) (HL.out _ hm) (by simp; omega))
          rw [take_one hlt] at HC
          generalize S.getD k [] = x at *
          unfold maxLen at hl2
          clear hr hm HPR
          go_wp2_with (go_at_call 45; refine HC.out.mono ?_; rintro e w5 ⟨rfl, q5, b5⟩; have HP5 := Lib.hid q5; have HB5 := Lib.hid (HB.out.trans b5); clear q5 b5 HC HB)
          go_roundg (gk - 1)
          case measure => omega
          case rel => exact ⟨k + 1, by go_num, by omega, HP5, HB5⟩
        · obtain rfl : k = S.length := by omega
          have HPS : Hid (PropW (fun _ => True) w.heap.size wr.heap.size wr (S ++ P.take 0) n g) := by have := HPR.out; rw [List.take_length] at this; show PropW _ _ _ _ _ _ _; simpa using this
          clear HPR
          obtain ⟨wo, ewo⟩ : ∃ wo : World, wo = wr := ⟨_, rfl⟩
          go_wp2_with fail
          go_loopg [41] P.length (fun kq v41 w' => ∃ k : Nat, v41 = .int .i64 k ∧ k + kq = P.length ∧ Hid (PropW (fun _ => True) w.heap.size w'.heap.size w' (S ++ P.take k) n g) ∧ Hid (rupF (S ++ P.take k) (P.drop k) (f - k) = rupF S P f) ∧ Hid (Below w.heap.size w w'))
          case atStart => exact ⟨0, rfl, by omega, HPS.out, by show _ = _; simp, HB.out⟩
          case round =>
            clear HPS HB ewo
            obtain ⟨k, rfl, hk, HPR, HG, HB⟩ := hrel
            by_cases hlt : k < P.length
            · obtain ⟨b5, o5, a5, c5, ee, kcell5, hr, hl1, hl2⟩ := (H2.out.belowB HB.out).at hlt
              cases ee
              have hm := getD_mem (d := ([] : List Int)) hlt
              have hst := rupF_step (S := S) (f := f) hlt
              rw [HG.out] at hst
              have hx := HP.out _ hm
              have hxl := HL2.out _ hm
              have hT : S ++ P.take k ++ [P.getD k []] = S ++ P.take (k + 1) := by rw [List.append_assoc, take_one hlt]
              have hsl : (S ++ P.take k).length = S.length + k := by simp; omega
              have HR := Lib.hid hr
              generalize P.getD k [] = x at *
              generalize hAll : S ++ P.take k = all at *
              unfold maxLen at hl2
              have HX := Lib.hid hx
              have HT := Lib.hid hT
              clear hx hT hAll hr hm
              by_cases hfk : f ≤ k
              · rw [if_pos hfk] at hst
                have HNG := Lib.hid (negated_calls HR.out (by omega) (neg_ok HX.out hn))
                have hfk2 : ¬ ((k : Int) < (f : Int)) := by omega
                rcases hb : rupB all x with _ | _
                · have HF : Hid (rupF S P f = false) := by show _ = _; rw [hst, hb]; rfl
                  have HBB := Lib.hid hb
                  clear hst hb
                  go_wp2_with (first | (go_at_call 39; refine HNG.out.mono ?_; rintro e w5 ⟨na, nn, nc, rfl, n5, b5⟩; have HRF := Lib.hid (prop_refutes (HPR.out.below b5) (A := neg x) ((RdS.of_row n5).mono fun _ _ hb => .inr hb) (neg_lits HX.out) (by simp [neg]; omega)); unfold RefW at HRF; rw [show confB all (neg x) = false from HBB.out] at HRF; have HB5 := Lib.hid (HB.out.trans (b5.mono HB.out.size)); clear n5 b5 HNG HB) | (go_at_call 36; refine HRF.out.mono ?_; rintro e w6 ⟨rfl, q6, b6⟩; have HB6 := Lib.hid (HB5.out.trans b6); clear q6 b6 HRF HB5))
                  go_ret
                  exact ⟨ret_bool (by rw [HLB.out, HF.out]), HB6.out⟩
                · have HF : Hid (rupF (S ++ P.take (k + 1)) (P.drop (k + 1)) (f - (k + 1)) = rupF S P f) := by show _ = _; rw [hst, hb]; rfl
                  have HBB := Lib.hid hb
                  clear hst hb
                  go_wp2_with (first | (go_at_call 39; refine HNG.out.mono ?_; rintro e w5 ⟨na, nn, nc, rfl, n5, b5⟩; have HRF := Lib.hid (prop_refutes (HPR.out.below b5) (A := neg x) ((RdS.of_row n5).mono fun _ _ hb => .inr hb) (neg_lits HX.out) (by simp [neg]; omega)); unfold RefW at HRF; rw [show confB all (neg x) = true from HBB.out] at HRF; have HB5 := Lib.hid (HB.out.trans (b5.mono HB.out.size)); have HR5 := Lib.hid (HR.out.below b5); clear n5 b5 HNG HB HR) | (go_at_call 36; refine HRF.out.mono ?_; rintro e w6 ⟨rfl, q6, b6⟩; have HB6 := Lib.hid (HB5.out.trans b6); have HC := Lib.hid (prop_add q6 (HR5.out.belowB b6) HX.out (by omega) (by omega)); rw [HT.out] at HC; clear q6 b6 HRF HB5 HR5) | (go_at_call 45; refine HC.out.mono ?_; rintro e w7 ⟨rfl, q7, b7⟩; have HP7 := Lib.hid q7; have HB7 := Lib.hid (HB6.out.trans b7); clear q7 b7 HC HB6))
                  go_roundg (gk - 1)
                  case measure => omega
                  case rel => exact ⟨k + 1, by go_num, by omega, HP7, HF, HB7⟩
              · rw [if_neg hfk] at hst
                have HF := Lib.hid hst.symm
                have HC := Lib.hid (prop_add HPR.out HR.out HX.out (by omega) (by omega))
                rw [HT.out] at HC
                clear hst
                have hfk2 : ((k : Int) < (f : Int)) := by omega
                go_wp2_with (go_at_call 45; refine HC.out.mono ?_; rintro e w7 ⟨rfl, q7, b7⟩; have HP7 := Lib.hid q7; have HB7 := Lib.hid (HB.out.trans b7); clear q7 b7 HC HB)
                go_roundg (gk - 1)
                case measure => omega
                case rel => exact ⟨k + 1, by go_num, by omega, HP7, HF, HB7⟩
            · obtain rfl : k = P.length := by omega
              have HF : Hid (rupF S P f = true) := by show _ = _; rw [← HG.out, List.drop_length]; rfl
              go_wp2
              go_ret
              exact ⟨ret_bool (by rw [HLB.out, HF.out]), HB.out⟩

set_option maxHeartbeats 8000000 in
theorem sCheck_calls {w : World} {B B2 : Nat → Prop} {v v2 : Value} {S P : List (List Int)} (h : RdSS w B v S) (h2 : RdSS w B2 v2 P) (n : Int) (hPl : P.length ≤ 10000000) (hl : ∀ c, c ∈ S → c.length ≤ 100000000) (hl2 : ∀ c, c ∈ P → c.length ≤ 100000000) :
    Calls Try.prog 21 #[.int .i64 n, v, v2] w (BoolPost w (checkR n S P)) := by
  obtain ⟨a1, c1, rfl, h1, hc1⟩ := h.form
  obtain ⟨a2, c2, rfl, h1', hc2⟩ := h2.form
  unfold maxLen at hc1 hc2
  have H := Lib.hid h
  have H2 := Lib.hid h2
  have HL := Lib.hid hl
  have HL2 := Lib.hid hl2
  clear h h2 hl hl2
  have HC := Lib.hid (valid_calls H.out H2.out n)
  rcases hv : (validB n S && clsB n P) with _ | _
  · rw [hv] at HC
    have HV := Lib.hid hv
    clear hv
    go_enter Try.func21, Try.ntmps21
    go_wp2_with (go_at_call 34; refine HC.out.mono ?_; rintro e w' ⟨rfl, rfl⟩)
    go_ret
    exact ⟨ret_bool (by rw [checkR, HV.out]; rfl), Below.refl _ _⟩
  · rw [hv] at HC
    have hv1 : validB n S = true := by simp at hv; exact hv.1
    have hv2 : clsB n P = true := by simp at hv; exact hv.2
    obtain ⟨m, rfl, hm, hSl, hS⟩ := valid_cases hv1
    have HV := Lib.hid hv
    have HP := Lib.hid (Proves_calls H.out H2.out m 0 (by omega) (litsL_of_B hS) (litsL_of_B hv2) (by omega) hPl HL.out HL2.out (by omega))
    have HE : Hid (checkR m S P = provesF S P 0) := by show _ = _; rw [checkR, hv, provesB, provesF, rupF_zero]; rfl
    clear hv hS hv1 hv2
    go_enter Try.func21, Try.ntmps21
    go_wp2_with (first | (go_at_call 34; refine HC.out.mono ?_; rintro e w' ⟨rfl, rfl⟩) | (go_at_call 41; refine HP.out.mono ?_; rintro e w5 ⟨rfl, b5⟩; have HB5 := Lib.hid b5; clear b5 HP))
    go_ret
    exact ⟨ret_bool HE.out.symm, HB5.out⟩

set_option maxHeartbeats 4000000 in
theorem sRup_calls {w : World} {B B2 : Nat → Prop} {v v2 : Value} {S : List (List Int)} {A : List Int} (h : RdSS w B v S) (h2 : RdS w B2 v2 (ints A)) (n : Int) (hl : ∀ c, c ∈ S → c.length ≤ 100000000) (hAl : A.length ≤ 100000000) :
    Calls Try.prog 19 #[.int .i64 n, v, v2] w (BoolPost w (rupR n S A)) := by
  obtain ⟨a1, c1, rfl, h1, hc1⟩ := h.form
  obtain ⟨a2, c2, rfl, h1', hc2⟩ := h2.form
  rw [ints_length] at *
  unfold maxLen at hc1 hc2
  have h3 := (Below.refl w.heap.size w).alloc (Nat.le_refl _) (.cells #[.slice a2 A.length c2] 23)
  have HC := Lib.hid (valid_calls (h.below h3) (RdSS.one h2 rfl) n)
  have H := Lib.hid (h.below h3)
  have H2 := Lib.hid (h2.lt.kept (B' := fun b => b < w.heap.size) h3.size fun b hlt hb => ⟨hb, h3.block b hlt⟩)
  have HB := Lib.hid h3
  have HL := Lib.hid hl
  clear h h2 h3 hl
  rcases hv : (validB n S && litsB n A) with _ | _
  · have HV := Lib.hid hv
    rw [show clsB n [A] = litsB n A from by simp [clsB], hv] at HC
    clear hv
    go_enter Try.func19, Try.ntmps19
    go_wp2_with (go_at_call 34; refine HC.out.mono ?_; rintro e w' ⟨rfl, rfl⟩)
    go_ret
    exact ⟨ret_bool (by rw [rupR, HV.out]; rfl), HB.out⟩
  · rw [show clsB n [A] = litsB n A from by simp [clsB], hv] at HC
    have hv1 : validB n S = true := by simp at hv; exact hv.1
    have hv2 : litsB n A = true := by simp at hv; exact hv.2
    obtain ⟨m, rfl, hm, hSl, hS⟩ := valid_cases hv1
    have HA := Lib.hid (lits_of_B hv2)
    have HE : Hid (rupR m S A = confB S (neg A)) := by show _ = _; rw [rupR, hv]; rfl
    have HP := Lib.hid (propagator_calls H.out m (by omega) (litsL_of_B hS) (by omega) HL.out)
    have ea2 : (w.alloc (.cells #[.slice a2 A.length c2] 23)).heap.size = w.heap.size + 1 := by simp
    clear hv hv1 hv2 hS
    go_enter Try.func19, Try.ntmps19
    go_wp2_with (first | (go_at_call 34; refine HC.out.mono ?_; rintro e w' ⟨rfl, rfl⟩) | (go_at_call 35; refine HP.out.mono ?_; rintro e w5 ⟨g, rfl, q5, b5⟩; have HNG := Lib.hid (negated_calls (H2.out.belowB (b5.mono (by omega))) (by omega) (neg_ok HA.out (by omega))); have HPR := Lib.hid q5; have HB5 := Lib.hid (HB.out.trans (b5.mono (by omega))); clear q5 b5 HP) | (go_at_call 39; refine HNG.out.mono ?_; rintro e w6 ⟨na, nn, nc, rfl, n6, b6⟩; have HRF := Lib.hid (prop_refutes (HPR.out.below b6) (A := neg A) ((RdS.of_row n6).mono fun _ _ hb => .inr hb) (neg_lits HA.out) (by simp [neg]; omega)); unfold RefW at HRF; have HB6 := Lib.hid (HB5.out.trans (b6.mono HB5.out.size)); clear n6 b6 HNG HB5) | (go_at_call 36; refine HRF.out.mono ?_; rintro e w7 ⟨rfl, q7, b7⟩; have HB7 := Lib.hid (HB6.out.trans (b7.mono (by omega))); clear q7 b7 HRF HB6))
    go_ret
    exact ⟨ret_bool HE.out.symm, HB7.out⟩
end Go.Proofs.Ytjbdiobnlmhidaa
namespace Go.Proofs.Ytjbdiobnlmhidaa

theorem rupB_iff {S : List (List Int)} {c : List Int} : rupB S c = true ↔ Conf S (neg c) := confB_iff
theorem rupB_mono {S S' : List (List Int)} {c : List Int} (hS : ∀ d, d ∈ S → d ∈ S') (h : rupB S c = true) : rupB S' c = true :=
  rupB_iff.2 ((rupB_iff.1 h).mono hS fun _ h => .asm h)
theorem rupAll_mono : ∀ (P S S' : List (List Int)), (∀ d, d ∈ S → d ∈ S') → rupAll S P = true → rupAll S' P = true := by
  intro P
  induction P with
  | nil => intro S S' _ _; rfl
  | cons c r ih =>
    intro S S' hS h
    simp only [rupAll, Bool.and_eq_true] at h ⊢
    refine ⟨rupB_mono hS h.1, ih _ _ (fun d hd => ?_) h.2⟩
    rcases List.mem_append.1 hd with hd | hd
    · exact List.mem_append.2 (.inl (hS d hd))
    · exact List.mem_append.2 (.inr hd)
theorem rupAll_app : ∀ (A B S : List (List Int)), rupAll S (A ++ B) = (rupAll S A && rupAll (S ++ A) B) := by
  intro A
  induction A with
  | nil => intro B S; simp [rupAll]
  | cons c r ih =>
    intro B S
    show (rupB S c && rupAll (S ++ [c]) (r ++ B)) = ((rupB S c && rupAll (S ++ [c]) r) && _)
    rw [ih, Bool.and_assoc, List.append_assoc]
    rfl
theorem rupF_app : ∀ (A B S : List (List Int)), rupF S (A ++ B) A.length = rupF (S ++ A) B 0 := by
  intro A
  induction A with
  | nil => intro B S; simp
  | cons c r ih =>
    intro B S
    show rupF (S ++ [c]) (r ++ B) r.length = _
    rw [ih, List.append_assoc]
    rfl

def without (l : List (List Int)) (i : Nat) : List (List Int) := l.take i ++ l.drop (i + 1)

theorem without_eq (A C : List (List Int)) (x : List Int) : without (A ++ x :: C) A.length = A ++ C := by
  unfold without
  rw [take_len, show A.length + 1 = (A ++ [x]).length from by simp, show A ++ x :: C = (A ++ [x]) ++ C from by simp, List.drop_left']
  rfl
theorem split_at {l : List (List Int)} {i : Nat} (h : i < l.length) : ∃ A x C, l = A ++ x :: C ∧ A.length = i :=
  ⟨l.take i, l.getD i [], l.drop (i + 1), by rw [← drop_cons [] h, List.take_append_drop], by simp; omega⟩

theorem lastB_app (A : List (List Int)) {C : List (List Int)} (h : C ≠ []) : lastB (A ++ C) = lastB C := by
  have hl : 0 < C.length := List.length_pos_iff.2 h
  unfold lastB
  have e1 : (A ++ C).length - 1 = A.length + (C.length - 1) := by simp; omega
  rw [e1, getD_appr]
  simp only [List.length_append]
  rw [decide_eq_true (show A.length + C.length ≠ 0 by omega), decide_eq_true (show C.length ≠ 0 by omega)]

/-- with more clauses before them, the rest of a proof stays a proof -/
theorem trim_key {S A B C : List (List Int)} {x y : List Int} (h : rupAll S (A ++ x :: (B ++ y :: C)) = true) (h2 : rupAll S (A ++ (B ++ C)) = true) : rupAll S (A ++ x :: (B ++ C)) = true := by
  have e1 : A ++ x :: (B ++ y :: C) = (A ++ x :: B) ++ y :: C := by simp
  have e2 : A ++ (B ++ C) = (A ++ B) ++ C := by simp
  have e3 : A ++ x :: (B ++ C) = (A ++ x :: B) ++ C := by simp
  rw [e1, rupAll_app, Bool.and_eq_true] at h
  rw [e2, rupAll_app, Bool.and_eq_true] at h2
  rw [e3, rupAll_app, Bool.and_eq_true]
  refine ⟨h.1, rupAll_mono _ _ _ (fun d hd => ?_) h2.2⟩
  simp only [List.mem_append, List.mem_cons] at hd ⊢
  rcases hd with hd | hd | hd
  · exact .inl hd
  · exact .inr (.inl hd)
  · exact .inr (.inr (.inr hd))

/-- the clauses from place i on cannot be left out -/
def MinFrom (S l : List (List Int)) (i : Nat) : Prop := ∀ j, i ≤ j → j + 1 < l.length → rupAll S (without l j) = false

theorem trim_drop {S l : List (List Int)} {j : Nat} (hj : j < l.length) (hl : provesB S l = true) (hm : MinFrom S l (j + 1)) (hp : provesF S (without l j) j = true) : provesB S (without l j) = true ∧ MinFrom S (without l j) j := by
  obtain ⟨A, x, C, rfl, rfl⟩ := split_at hj
  rw [without_eq] at *
  simp only [provesB, provesF, Bool.and_eq_true] at hl hp ⊢
  rw [rupF_app, rupF_zero] at hp
  have hA : rupAll S A = true := by have := hl.2; rw [rupAll_app, Bool.and_eq_true] at this; exact this.1
  have hr : rupAll S (A ++ C) = true := by rw [rupAll_app, hA, hp.2]; rfl
  refine ⟨⟨hp.1, hr⟩, fun k hk hk2 => ?_⟩
  obtain ⟨D, y, E, e, rfl⟩ := split_at (l := A ++ C) (i := k) (by omega)
  rw [e, without_eq]
  obtain ⟨B, rfl⟩ : ∃ B, D = A ++ B := by
    refine ⟨D.drop A.length, ?_⟩
    have h1 : D = (A ++ C).take D.length := by rw [e, take_len]
    have h2 : D.take A.length = A := by rw [h1, List.take_take, Nat.min_eq_left hk, take_len]
    calc D = D.take A.length ++ D.drop A.length := (List.take_append_drop _ _).symm
      _ = A ++ D.drop A.length := by rw [h2]
  have hC : C = B ++ y :: E := by rw [List.append_assoc] at e; exact List.append_cancel_left e
  subst hC
  rcases hb : rupAll S ((A ++ B) ++ E) with _ | _
  · rfl
  · have h1 := trim_key (x := x) (y := y) hl.2 (by rw [← List.append_assoc]; exact hb)
    have h2 := hm ((A ++ x :: B).length) (by simp) (by simp at hk2 ⊢; omega)
    have e4 : A ++ x :: (B ++ y :: E) = (A ++ x :: B) ++ y :: E := by simp
    rw [e4, without_eq] at h2
    have e5 : A ++ x :: (B ++ E) = (A ++ x :: B) ++ E := by simp
    rw [e5, h2] at h1
    cases h1

theorem trim_keep {S l : List (List Int)} {j : Nat} (hj : j < l.length) (hl : provesB S l = true) (hm : MinFrom S l (j + 1)) (hp : provesF S (without l j) j = false) : MinFrom S l j := by
  intro k hk hk2
  by_cases e : k = j
  · subst e
    obtain ⟨A, x, C, rfl, rfl⟩ := split_at hj
    rw [without_eq] at *
    have hC : C ≠ [] := by intro e; subst e; simp at hk2
    simp only [provesB, Bool.and_eq_true] at hl
    have h1 : lastB (A ++ C) = true := by
      rw [lastB_app A hC]
      have := hl.1
      rw [show A ++ x :: C = (A ++ [x]) ++ C from by simp, lastB_app _ hC] at this
      exact this
    rw [provesF, h1, rupF_app, rupF_zero, Bool.true_and] at hp
    rw [rupAll_app, hp, Bool.and_false]
  · exact hm k (by omega) hk2

theorem Conf.more {S : List (List Int)} {A A' : List Int} (h : Conf S A) (hA : ∀ l, l ∈ A → l ∈ A') : Conf S A' := h.mono (fun _ h => h) fun l hl => .asm (hA l hl)
theorem rupAll_conf : ∀ (P S : List (List Int)), Conf S [] → rupAll S P = true := by
  intro P
  induction P with
  | nil => intro S _; rfl
  | cons c r ih =>
    intro S h
    simp only [rupAll, Bool.and_eq_true]
    exact ⟨rupB_iff.2 (h.more fun l hl => by cases hl), ih _ (h.mono (fun d hd => List.mem_append.2 (.inl hd)) fun l hl => by cases hl)⟩

/-- no clause of a trimmed proof can be left out -/
theorem trim_min {S l : List (List Int)} (hl : provesB S l = true) (hm : MinFrom S l 0) {j : Nat} (hj : j < l.length) : provesB S (without l j) = false := by
  by_cases e : j + 1 < l.length
  · rw [provesB, hm j (Nat.zero_le _) e, Bool.and_false]
  · obtain ⟨A, x, C, rfl, rfl⟩ := split_at hj
    obtain rfl : C = [] := by
      cases C with
      | nil => rfl
      | cons y r => simp at e
    rw [without_eq, List.append_nil]
    rcases List.eq_nil_or_concat A with rfl | ⟨B, y, rfl⟩
    · rfl
    · by_cases hy : y = []
      · subst hy
        have h1 := hm B.length (Nat.zero_le _) (by simp)
        have e1 : (B ++ [[]]) ++ [x] = B ++ [] :: [x] := by simp
        simp only [List.concat_eq_append] at *
        rw [e1, without_eq] at h1
        simp only [provesB, Bool.and_eq_true] at hl
        have h2 := hl.2
        rw [e1, rupAll_app] at h2
        simp only [rupAll, Bool.and_eq_true] at h2
        have hc : Conf (S ++ B) [] := rupB_iff.1 h2.2.1
        rw [rupAll_app, h2.1, rupAll_conf _ _ hc] at h1
        cases h1
      · simp only [List.concat_eq_append]
        rw [provesB, lastB_app B (by simp)]
        have : lastB [y] = false := by
          unfold lastB
          cases y with
          | nil => exact absurd rfl hy
          | cons a r => rfl
        rw [this]; rfl
end Go.Proofs.Ytjbdiobnlmhidaa
namespace Go.Proofs.Ytjbdiobnlmhidaa

def pickL (P : List (List Int)) (used : List Bool) (k : Nat) : List (List Int) := (List.range k).filterMap (fun i => if used.getD i false = true then some (P.getD i []) else none)
theorem pickL_step (P : List (List Int)) (used : List Bool) (k : Nat) : pickL P used (k + 1) = if used.getD k false = true then pickL P used k ++ [P.getD k []] else pickL P used k := by
  unfold pickL
  rw [List.range_succ, List.filterMap_append, List.filterMap_cons, List.filterMap_nil]
  split
  · rename_i h
    split at h
    · cases h
    · rename_i hn; rw [if_neg hn, List.append_nil]
  · rename_i b h
    split at h
    · rename_i hn; rw [if_pos hn]; cases h; rfl
    · cases h
theorem pickL_len (P : List (List Int)) (used : List Bool) (k : Nat) : (pickL P used k).length ≤ k := by
  unfold pickL
  exact Nat.le_trans (List.length_filterMap_le _ _) (by simp)
theorem pickL_mem {P : List (List Int)} {used : List Bool} {k j : Nat} (hj : j < k) (hu : used.getD j false = true) : P.getD j [] ∈ pickL P used k := by
  unfold pickL
  rw [List.mem_filterMap]
  exact ⟨j, List.mem_range.2 hj, by rw [if_pos hu]⟩
theorem pickL_mono {P : List (List Int)} {used used' : List Bool} (h : ∀ j, used.getD j false = true → used'.getD j false = true) (k : Nat) : ∀ c, c ∈ pickL P used k → c ∈ pickL P used' k := by
  intro c hc
  unfold pickL at hc
  rw [List.mem_filterMap] at hc
  obtain ⟨j, hj, e⟩ := hc
  split at e
  · rename_i hu
    obtain rfl : P.getD j [] = c := by simpa using e
    exact pickL_mem (List.mem_range.1 hj) (h j hu)
  · cases e
theorem pickL_sub (P : List (List Int)) (used : List Bool) : ∀ k, k ≤ P.length → (pickL P used k).Sublist (P.take k) := by
  intro k
  induction k with
  | zero => intro _; exact List.Sublist.refl _
  | succ k ih =>
    intro hk
    rw [pickL_step, ← take_one (by omega)]
    split
    · exact (ih (by omega)).append (List.Sublist.refl _)
    · exact (ih (by omega)).trans (List.sublist_append_left _ _)

def useL (base : Nat) (used : List Bool) (out : List Int) : List Bool := out.foldl (fun u k => if (base : Int) ≤ k then u.set (k - base).toNat true else u) used
theorem useL_len (base : Nat) : ∀ (out : List Int) (u : List Bool), (useL base u out).length = u.length := by
  intro out
  induction out with
  | nil => intro u; rfl
  | cons k r ih =>
    intro u
    show (useL base (if (base : Int) ≤ k then u.set (k - base).toNat true else u) r).length = _
    rw [ih]; split <;> simp
theorem useL_get (base : Nat) : ∀ (out : List Int) (u : List Bool) (j : Nat), j < u.length → (((useL base u out).getD j false = true) ↔ (u.getD j false = true ∨ ((base + j : Nat) : Int) ∈ out)) := by
  intro out
  induction out with
  | nil => intro u j _; simp [useL]
  | cons k r ih =>
    intro u j hj
    show (useL base (if (base : Int) ≤ k then u.set (k - base).toNat true else u) r).getD j false = true ↔ _
    rw [ih _ j (by split <;> simpa using hj), List.mem_cons]
    by_cases hk : (base : Int) ≤ k
    · rw [if_pos hk, getD_set]
      by_cases e : (k - base).toNat = j
      · have ek : ((base + j : Nat) : Int) = k := by omega
        rw [if_pos ⟨e, by omega⟩]
        simp [ek]
      · have ek : ¬ ((base + j : Nat) : Int) = k := by omega
        rw [if_neg (fun h => e h.1)]
        simp only [ek, false_or]
    · have ek : ¬ ((base + j : Nat) : Int) = k := by omega
      rw [if_neg hk]
      simp only [ek, false_or]
theorem useL_mono (base : Nat) : ∀ (out : List Int) (u : List Bool) (j : Nat), u.getD j false = true → (useL base u out).getD j false = true := by
  intro out
  induction out with
  | nil => intro u j h; exact h
  | cons k r ih =>
    intro u j h
    show (useL base (if (base : Int) ≤ k then u.set (k - base).toNat true else u) r).getD j false = true
    refine ih _ j ?_
    split
    · rw [getD_set]; split
      · rfl
      · exact h
    · exact h

/-- the clauses of the proof from place i on that are used follow from the used ones before them -/
structure NInv (S P : List (List Int)) (used : List Bool) (i : Nat) : Prop where
  len : used.length = P.length
  last : used.getD (P.length - 1) false = true
  ok : ∀ j, i ≤ j → j < P.length → used.getD j false = true → Conf (S ++ pickL P used j) (neg (P.getD j []))

theorem NInv.step {S P : List (List Int)} {used : List Bool} {i : Nat} (h : NInv S P used (i + 1)) (hi : i < P.length) {out : List Int} (ho : ∀ k, k ∈ out → ∃ j : Nat, k = j ∧ j < S.length + i)
    (hc : Conf (out.map (fun k => (S ++ P.take i).getD k.toNat [])) (neg (P.getD i []))) : NInv S P (useL S.length used out) i where
  len := by rw [useL_len]; exact h.len
  last := useL_mono _ _ _ _ h.last
  ok j hj hjl hu := by
    have hmono := fun j => useL_mono S.length out used j
    by_cases e : j = i
    · subst e
      refine hc.mono (fun d hd => ?_) fun l hl => .asm hl
      obtain ⟨k, hk, rfl⟩ := List.mem_map.1 hd
      obtain ⟨t, rfl, ht⟩ := ho k hk
      simp only [Int.toNat_natCast]
      rw [List.mem_append]
      by_cases hs : t < S.length
      · left
        rw [getD_app hs]
        exact getD_mem hs
      · right
        obtain ⟨t', rfl⟩ : ∃ t', t = S.length + t' := ⟨t - S.length, by omega⟩
        rw [getD_appr, getD_take (by omega)]
        exact pickL_mem (by omega) ((useL_get S.length out used t' (by rw [h.len]; omega)).2 (.inr hk))
    · have hu' : used.getD j false = true := by
        rcases (useL_get S.length out used j (by rw [h.len]; omega)).1 hu with h1 | h1
        · exact h1
        · obtain ⟨t, e1, ht⟩ := ho _ h1
          omega
      refine (h.ok j (by omega) hjl hu').mono (fun d hd => ?_) fun l hl => .asm hl
      rcases List.mem_append.1 hd with hd | hd
      · exact List.mem_append.2 (.inl hd)
      · exact List.mem_append.2 (.inr (pickL_mono hmono j d hd))

theorem NInv.skip {S P : List (List Int)} {used : List Bool} {i : Nat} (h : NInv S P used (i + 1)) (hu : used.getD i false = false) : NInv S P used i :=
  ⟨h.len, h.last, fun j hj hjl hu' => by
    by_cases e : j = i
    · subst e; rw [hu] at hu'; cases hu'
    · exact h.ok j (by omega) hjl hu'⟩

theorem NInv.proof {S P : List (List Int)} {used : List Bool} (h : NInv S P used 0) (hl : lastB P = true) : provesB S (pickL P used P.length) = true ∧ (pickL P used P.length).Sublist P := by
  have h0 : P.length ≠ 0 := by intro e; rw [lastB, e] at hl; cases hl
  refine ⟨?_, by have := pickL_sub P used P.length (Nat.le_refl _); rwa [List.take_length] at this⟩
  have key : ∀ k, k ≤ P.length → rupAll S (pickL P used k) = true := by
    intro k
    induction k with
    | zero => intro _; rfl
    | succ k ih =>
      intro hk
      rw [pickL_step]
      split
      · rename_i hu
        rw [rupAll_app, ih (by omega)]
        simp only [rupAll, Bool.and_true, Bool.true_and]
        exact rupB_iff.2 (h.ok k (Nat.zero_le _) (by omega) hu)
      · exact ih (by omega)
  obtain ⟨m, hm⟩ : ∃ m, P.length = m + 1 := ⟨P.length - 1, by omega⟩
  have hlast := h.last
  rw [provesB, key _ (Nat.le_refl _), Bool.and_true, hm, pickL_step]
  rw [hm, Nat.add_sub_cancel] at hlast
  rw [if_pos hlast, lastB_app _ (by simp)]
  simp only [lastB, Bool.and_eq_true, decide_eq_true_eq] at hl ⊢
  rw [hm, Nat.add_sub_cancel] at hl
  exact ⟨by simp, by simpa using hl.2⟩
end Go.Proofs.Ytjbdiobnlmhidaa
