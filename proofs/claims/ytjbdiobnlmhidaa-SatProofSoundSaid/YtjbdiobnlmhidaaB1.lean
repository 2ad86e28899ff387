/- Proved here: attaching a clause, and the law of the conflict analysis. Conditions: those that each theorem states. -/
import Derived.Test.YtjbdiobnlmhidaaA9
set_option linter.unusedVariables false
set_option linter.unusedSimpArgs false
namespace Go.Proofs.Ytjbdiobnlmhidaa
open Go Go.RowKit

theorem step_app_any {ops : Array Oper} {o : Oper} {a : Act} {K : Act → World → Prop} {Q : Exit → Act → World → Prop} {X : Prop} {w0 w : World} {E t : TypeId} {z : Value} {bytes : Nat}
    (ht : Try.prog.underlying t = some (.slice E)) (hinf : (Try.prog.info? E).map (fun i => (i.zero, i.size, i.bytes)) = some (some z, 1, bytes)) (hz : z.cells.size = 1)
    (hgd : o.guard = none) (s x : Operand) (ho : o.op = .call { callee := .builtin .append, args := #[s, x], argTypes := #[t, t] })
    (v : Value) (xs : List Value) (hs : a.eval s = v) (hown : w.ownsRow w0.heap.size E 1 v xs.length xs) (hbel : Below w0.heap.size w0 w)
    {B : Nat → Prop} {y : Value} (news : List Value) (hx : a.eval x = y) (hy : RdS w B y news) (h1 : ∀ u ∈ news, u.oneCell' = true)
    (hb : bytes ≤ 64) (hn : xs.length + news.length ≤ 1000000000000)
    (h : ∀ (a' : Option Addr) (n' c' : Nat) w', w'.ownsRow w0.heap.size E 1 (.slice a' n' c') (xs ++ news).length (xs ++ news) → Below w0.heap.size w0 w' → w.grownBy w' v.ownBlock → n' = xs.length + news.length → K (a.put o.dst (.slice a' n' c')) w') :
    if Region.wanted o (yielded ops a.tmps) = true then Oper.wp Try.prog o a w K Q else X := by
  rw [if_pos (by simp [Region.wanted, hgd])]
  rcases hy.app with ⟨rfl, rfl⟩ | ⟨ad, c, rfl, hcell⟩
  · obtain ⟨i, hi, hz0, hz1, hz2⟩ := info_parts hinf
    have hrun := run_append_owned_none (P := Try.prog) w w0.heap.size t o.type E i 1 ht hi v xs.length xs hown
    obtain ⟨a', n', c', rfl, hn'⟩ : ∃ a' n' c', v = .slice a' n' c' ∧ n' = xs.length := by
      rcases hown.2 with ⟨rfl, e⟩ | ⟨g, cap, cur, rfl, _⟩
      · exact ⟨none, 0, 0, rfl, e.symm⟩
      · exact ⟨_, _, _, rfl, rfl⟩
    unfold Oper.wp
    simp only [execOp, ho, resolve, invoke, builtin, Sem.run_bind, Sem.run_pure, Result.andThen_ok, List.map_toArray, List.map_cons, List.map_nil, hs, hx, hrun]
    exact h a' n' c' w (by rw [List.append_nil]; exact hown) hbel (World.grownBy.refl _ _) (by simpa using hn')
  · obtain ⟨i, hi, hz0, hz1, hz2⟩ := info_parts hinf
    have hbytes : (xs.length + news.length) * bytes ≤ 140737488355328 := by
      have : (xs.length + news.length) * bytes ≤ 1000000000000 * 64 := Nat.mul_le_mul hn hb
      omega
    obtain ⟨v', w', hrun, g2, g3, g4, g5⟩ := run_append_own_at (P := Try.prog) w w0.heap.size t o.type E i z 1 bytes ht hi hz0 hz1 hz2 hz (by decide) v xs.length xs hown ad news.length c news (by omega) hcell h1 (by unfold maxLen; omega) hbytes hbel.size
    have g2' : w'.ownsRow w0.heap.size E 1 v' (xs ++ news).length (xs ++ news) := by rw [List.length_append]; exact g2
    obtain ⟨a', c', rfl⟩ : ∃ a' c', v' = .slice a' (xs.length + news.length) c' := by
      rcases g2.2 with ⟨rfl, e⟩ | ⟨g, cap, cur, rfl, _⟩
      · exact ⟨none, 0, by rw [e]⟩
      · exact ⟨_, _, rfl⟩
    unfold Oper.wp execOp
    simp only [ho, resolve, invoke, builtin, Sem.run_bind, Sem.run_pure, Result.andThen_ok, List.map_toArray, List.map_cons, List.map_nil, hs, hx, hrun]
    exact h a' _ c' w' g2' (hbel.grown g3 hbel.size fun k hk => (World.ownsRow.lt hown k hk).1) g3 rfl

/-- the learned clause's second literal is of the highest level -/
def arrGo (lev : List Int) : Nat → Nat → List Int → Nat → List Int × Nat
  | 0, _, c, x => (c, x)
  | r + 1, k, c, x =>
    if x < (lev.getD (c.getD k 0).natAbs 0).toNat then arrGo lev r (k + 1) ((c.set 1 (c.getD k 0)).set k (c.getD 1 0)) (lev.getD (c.getD k 0).natAbs 0).toNat
    else arrGo lev r (k + 1) c x
def arrange (lev c : List Int) : List Int × Nat := arrGo lev (c.length - 1) 1 c 0

def SS.learnt (z : SS) (c : List Int) : SS := { z with lrn := z.lrn ++ [c], p := z.p.add c }
def SS.forced (z : SS) (c : List Int) (x : Nat) : SS :=
  if 1 < c.length then { z with p := z.p.set (c.getD 0 0) ((z.p.cls.length : Int) - 1), lev := z.lev.set (c.getD 0 0).natAbs x } else z
def SS.attach (z : SS) (c : List Int) : SS := (((z.back (arrange z.lev c).2).learnt (arrange z.lev c).1).forced (arrange z.lev c).1 (arrange z.lev c).2)

theorem SX.tagL {R R1 : Roles} {w w1 : World} {s : SV} {z : SS} (h : SX R w s z) (c : Chg (· = (11, z.lrn.length)) R w R1 w1) : SX R1 w1 s z where
  lrn := h.lrn.chg c (by simp)
  llen := h.llen
  lrow i hi := (h.lrow i hi).chg c (by simp; omega)
  lim := h.lim.chg c (by simp)
  lev := h.lev.chg c (by simp)
  act := by obtain ⟨al, h1, h2⟩ := h.act; exact ⟨al, h1.chg c (by simp), h2⟩
  stp := h.stp
  pha := by obtain ⟨al, h1, h2⟩ := h.pha; exact ⟨al, h1.chg c (by simp), h2⟩

theorem SRep.setLrn {R R1 : Roles} {w w1 : World} {g : Nat} {u : PV} {s : SV} {z : SS} (h : SRep R w g u s z) (k : Chg (· = (10, 0)) R w R1 w1) (hd : Dom R1 w1) {v row : Value} {c : List Int} (ho : OwnS R1 w1 (10, 0) 23 v (s.lrow ++ [row])) (hr : OwnS R w (11, z.lrn.length) 3 row (ints c)) :
    SRep R1 (w1.setCell ⟨g, 10, none⟩ v) g u { s with lrn := v, lrow := s.lrow ++ [row] } { z with lrn := z.lrn ++ [c] } ∧ Chg SRole R w R1 (w1.setCell ⟨g, 10, none⟩ v) := by
  have r := h.1.chg k (fun i j hi e => by cases e; omega) hd
  have kc := Chg.setCell w1 hd r.rg 10 none v
  have hne : ∀ i j : Nat, i ≠ 10 → ¬ ((i, j) : Role) = (10, 0) := fun i j hi e => by cases e; omega
  have hn0 : ∀ i j : Nat, 0 < i → ¬ ((i, j) : Role) = (0, 0) := fun i j hi e => by cases e; omega
  refine ⟨⟨putExt r 0 v rfl, ?_⟩, (k.mono (by rintro r rfl; simp)).trans (kc.mono (by rintro r rfl; simp))⟩
  obtain ⟨al, a1, a2⟩ := h.2.act
  obtain ⟨pl, p1, p2⟩ := h.2.pha
  refine ⟨ho.chg kc (hn0 _ _ (by omega)), by simp [h.2.llen], fun i hi => ?_, (h.2.lim.chg k (hne _ _ (by omega))).chg kc (hn0 _ _ (by omega)),
    (h.2.lev.chg k (hne _ _ (by omega))).chg kc (hn0 _ _ (by omega)), ⟨al, (a1.chg k (hne _ _ (by omega))).chg kc (hn0 _ _ (by omega)), a2⟩, h.2.stp, ⟨pl, (p1.chg k (hne _ _ (by omega))).chg kc (hn0 _ _ (by omega)), p2⟩⟩
  show OwnS _ _ _ _ ((s.lrow ++ [row]).getD i undef) (ints ((z.lrn ++ [c]).getD i []))
  rw [getD_snoc, getD_snoc, h.2.llen]
  by_cases e : i < z.lrn.length
  · rw [if_pos e, if_pos e]
    exact ((h.2.lrow i e).chg k (hne _ _ (by omega))).chg kc (hn0 _ _ (by omega))
  · have e2 : i = z.lrn.length := by simp at hi; omega
    subst e2
    rw [if_neg e, if_neg e, if_pos rfl, if_pos rfl]
    exact (hr.chg k (hne _ _ (by omega))).chg kc (hn0 _ _ (by omega))

structure AttOk (z : SS) (c : List Int) : Prop where
  wf : WF z.p
  lev : (z.lev.length : Int) = z.p.n + 1
  levr : ∀ y, y ∈ z.lev → 0 ≤ y ∧ y ≤ 1000000000
  lim : z.lim.length ≤ 1000000000
  limr : ∀ x, x < z.lim.length → z.lim.getD x 0 ≤ z.p.tra.length
  tra : z.p.tra.length ≤ 100000000
  lit : ∀ l, l ∈ c → Lit z.p.n l
  cl : c.length ≤ 100000000
  cn : z.p.cls.length < 100000000
  un : z.p.uni.length ≤ 100000000
  rows : ∀ r, r ∈ z.p.wat → r.length ≤ 100000000
  lrn : z.lrn.length ≤ 1000000000

theorem back_same (z : SS) (k : Nat) : (z.back k).p.cls = z.p.cls ∧ (z.back k).p.wat = z.p.wat ∧ (z.back k).p.uni = z.p.uni ∧ (z.back k).p.n = z.p.n ∧ (z.back k).p.val.length = z.p.val.length ∧ (z.back k).p.rea = z.p.rea ∧ (z.back k).p.tra.length ≤ z.p.tra.length ∧ (z.back k).lev = z.lev ∧ (z.back k).lrn = z.lrn := by
  unfold SS.back
  split
  · exact ⟨rfl, rfl, rfl, rfl, rfl, rfl, Nat.le_refl _, rfl, rfl⟩
  · exact ⟨rfl, rfl, rfl, rfl, zeroed_length _ _, rfl, by simp; omega, rfl, rfl⟩

theorem mag_quiet (l : Int) (h0 : -1000000000000000 ≤ l) (h1 : l ≤ 1000000000000000) {w : World} {n : Nat} : Calls Try.prog 71 #[.int .i64 l] (w.drewN n) fun e w'' => e = .returned (.int .i64 (l.natAbs : Int)) ∧ ∃ m, w'' = w.drewN m :=
  (magnitude_calls l _ h0 h1).mono fun _ _ h => ⟨h.1, n, h.2.symm⟩

def sw2 (c : List Int) (k : Nat) : List Int := (c.set 1 (c.getD k 0)).set k (c.getD 1 0)

set_option maxRecDepth 100000 in
set_option maxHeartbeats 16000000 in
theorem attach_calls {R : Roles} {w : World} {g : Nat} {u : PV} {s : SV} {z : SS} {v : Value} {c : List Int} (h : SRep R w g u s z) (hc : OwnS R w (25, 0) 3 v (ints c)) (ha : AttOk z c) :
    Calls Try.prog 72 #[.pointer (some ⟨g, 0, none⟩), v] w (fun e w' => e = .returned (.tuple #[]) ∧ ∃ R' u' s', SRep R' w' g u' s' (z.attach c) ∧ Chg ARole R w R' w') := by
  obtain ⟨ca, cc, rfl, hc1, hc2, -⟩ := hc.form
  rw [ints_length] at hc1 hc ⊢
  unfold maxLen at hc2
  obtain ⟨M, hM, hM1⟩ : ∃ M : Nat, ((c.length = 0 ∧ M = 1) ∨ (0 < c.length ∧ M = c.length)) ∧ 1 ≤ M := by
    by_cases e : c.length = 0
    · exact ⟨1, .inl ⟨e, rfl⟩, Nat.le_refl _⟩
    · exact ⟨c.length, .inr ⟨by omega, rfl⟩, by omega⟩
  have H := Lib.hid (And.intro h (And.intro hc (Chg.refl ARole R w h.1.dom)))
  have HA := Lib.hid ha
  have hcl := ha.cl
  have HL0 : Hid (∀ l, l ∈ c → l ∈ c) := fun _ h => h
  have HG0 : Hid (arrGo z.lev (M - 1) 1 c 0 = arrange z.lev c) := by
    show _ = _
    unfold arrange
    congr 1
    omega
  have h12 := h.cells.2.2.1
  clear h hc ha
  go_enter Try.func72, Try.ntmps72
  go_wp2_with fail
  go_loopg [4, 5] (M - 1) (fun kq v4 v5 w' => ∃ (k x : Nat) (c' : List Int), v4 = .int .i64 x ∧ v5 = .int .i64 k ∧ k + kq = M ∧ 1 ≤ k ∧ x ≤ 1000000000 ∧ c'.length = c.length ∧ Hid (∀ l, l ∈ c' → l ∈ c) ∧ Hid (arrGo z.lev (M - k) k c' x = arrange z.lev c) ∧
    Hid (SRep R w' g u s z ∧ OwnS R w' (25, 0) 3 (.slice ca c.length cc) (ints c') ∧ Chg ARole R w R w'))
  case atStart => exact ⟨1, 0, c, rfl, rfl, by omega, by omega, by omega, rfl, HL0, HG0, H.out⟩
  case round =>
    clear H HL0 HG0 h12
    obtain ⟨k, x, c', rfl, rfl, hk, hk1, hx, hcl', HL, HG, H⟩ := hrel
    by_cases hlt : k < c.length
    · have hMk : M = c.length := by omega
      obtain ⟨cb, cc', e1, -, -, cR, cbl, kcell, kf⟩ := H.out.2.1.cell (i := k) (by rw [ints_length]; omega)
      obtain ⟨cb1, cc1, e2, -, -, -, -, kcell1, kf1⟩ := H.out.2.1.cell (i := 1) (by rw [ints_length]; omega)
      simp only [Value.slice.injEq] at e1 e2
      obtain ⟨rfl, -, -⟩ := e1
      obtain ⟨e2, -, -⟩ := e2
      cases e2
      rw [ints_get (by omega)] at kcell kcell1
      have hlit := HA.out.lit _ (HL.out _ (getD_mem (d := 0) (l := c') (i := k) (by omega)))
      have hl2 := hlit.2
      have hnm := HA.out.wf.nmax
      have hlv := HA.out.lev
      obtain ⟨vb, vc, h12, lcell, -, -⟩ := H.out.1.atLev (i := (c'.getD k 0).natAbs) (by omega)
      have hll : (c'.getD k 0).natAbs < z.lev.length := by omega
      have hla : ((c'.getD k 0).natAbs : Int) ≤ 100000000 := by omega
      obtain ⟨y, hy⟩ : ∃ y : Nat, z.lev.getD (c'.getD k 0).natAbs 0 = y := ⟨_, (Int.toNat_of_nonneg (HA.out.levr _ (getD_mem hll)).1).symm⟩
      have hyb : y ≤ 1000000000 := by have := (HA.out.levr _ (getD_mem (d := 0) hll)).2; omega
      rw [hy] at lcell
      have HST : Hid ((x < y → arrGo z.lev (M - (k + 1)) (k + 1) (sw2 c' k) y = arrange z.lev c) ∧ (¬ x < y → arrGo z.lev (M - (k + 1)) (k + 1) c' x = arrange z.lev c)) := by
        have := HG.out
        rw [show M - k = (M - (k + 1)) + 1 from by omega] at this
        unfold arrGo at this
        rw [hy] at this
        simp only [Int.toNat_natCast] at this
        exact ⟨fun h => by rw [if_pos h] at this; exact this, fun h => by rw [if_neg h] at this; exact this⟩
      have HSL : Hid (∀ l, l ∈ sw2 c' k → l ∈ c) := fun l hl => by
        unfold sw2 at hl
        rcases mem_set hl with hl | rfl
        · rcases mem_set hl with hl | rfl
          · exact HL.out l hl
          · exact HL.out _ (getD_mem (by omega))
        · exact HL.out _ (getD_mem (by omega))
      have hsl : (sw2 c' k).length = c.length := by unfold sw2; simp; omega
      have HSW : Hid (sw2 c' k = (c'.set 1 (c'.getD k 0)).set k (c'.getD 1 0)) := rfl
      generalize sw2 c' k = d at *
      generalize hck : c'.getD k 0 = l at *
      generalize hc1' : c'.getD 1 0 = l1 at *
      have HCK := Lib.hid hck
      have HC1 := Lib.hid hc1'
      clear hck hc1'
      have CR := Lib.hid cR
      have HK := Lib.hid (And.intro hk (And.intro hk1 hMk))
      have h2c : 1 < c.length := by omega
      have h2i : (1 : Int) < (c.length : Int) := by omega
      clear HG hlit hl2 hnm hlv hy cR cbl hk hk1 hMk hM hM1
      go_wp2_with fail
      go_quiet (first | (go_at_call 71; exact mag_quiet l (by omega) (by omega)))
      obtain ⟨w1, ew1⟩ : ∃ w1 : World, wr.drewN nq = w1 := ⟨_, rfl⟩
      rw [ew1]
      have kd : Chg (fun _ => False) R wr R w1 := by rw [← ew1]; exact (Chg.refl (fun _ => False) R wr H.out.1.1.dom).congr rfl rfl rfl rfl
      have H1 : Hid (SRep R w1 g u s z ∧ OwnS R w1 (25, 0) 3 (.slice (some ⟨cb, 0, none⟩) c.length cc) (ints c') ∧ Chg ARole R w R w1) :=
        ⟨H.out.1.chg kd (fun _ _ _ h => h) (H.out.1.1.dom.chg kd), H.out.2.1.chg kd (fun h => h), H.out.2.2.trans (kd.mono (fun _ h => h.elim))⟩
      clear kd H ew1 kcell kcell1 kf kf1 h12 lcell
      by_cases hxy : x < y
      · have hxy' : (y : Int) > (x : Int) := by omega
        have HR := Lib.hid (HST.out.1 hxy)
        have HOW := Lib.hid H1.out.2.1
        obtain ⟨cb2, cc2, e1, -, -, -, -, kcell, kf⟩ := H1.out.2.1.cell (i := k) (by rw [ints_length]; omega)
        obtain ⟨cb3, cc3, e2, -, -, -, -, kcell1, kf1⟩ := H1.out.2.1.cell (i := 1) (by rw [ints_length]; omega)
        simp only [Value.slice.injEq, Option.some.injEq, Addr.mk.injEq, and_true] at e1 e2
        obtain ⟨rfl, -, -⟩ := e1
        obtain ⟨rfl, -, -⟩ := e2
        rw [ints_get (by omega)] at kcell kcell1
        have e1 : w1.drew.cell? ⟨cb, k, none⟩ = some (.int .i64 l) := by rw [HCK.out] at kcell; exact kcell
        have e2 : w1.drew.cell? ⟨cb, 1, none⟩ = some (.int .i64 l1) := by rw [HC1.out] at kcell1; exact kcell1
        have ek : (w1.setCell ⟨cb, 1, none⟩ (.int .i64 l)).cell? ⟨cb, k, none⟩ = some (.int .i64 l) := by
          have o1 := HOW.out.set (i := 1) (by rw [ints_length]; omega) (.int .i64 l)
          rw [ints_set] at o1
          obtain ⟨cb4, cc4, e4, -, -, -, -, kc4, -⟩ := o1.cell (i := k) (by simp; omega)
          simp only [Value.slice.injEq, Option.some.injEq, Addr.mk.injEq, and_true] at e4
          obtain ⟨rfl, -, -⟩ := e4
          rw [ints_get (by simp; omega), getD_set] at kc4
          rw [kc4]
          by_cases e : 1 = k
          · rw [if_pos ⟨e, by omega⟩]
          · rw [if_neg (fun h => e h.1), HCK.out]
        clear kcell kcell1
        go_wp2_with fail
        refine wp_region_seq (fun w' => w'.cell? ⟨cb, k, none⟩ = some (.int .i64 l) ∧ w'.cell? ⟨cb, 1, none⟩ = some (.int .i64 l1)) [11, 13]
          [(0, 2), (1, 2), (2, 2), (3, 2), (4, 2), (5, 2), (6, 1), (7, 2), (8, 2), (9, 1), (10, 2), (11, 0), (12, 2), (13, 0)]
          (by kernel_rfl) (by kernel_rfl) (fun c a d v w h => by cases d <;> exact h) (by kernel_rfl) ⟨e1, e2⟩ ?_
        repeat
          first
            | refine wpSeqN_quiet (v := ?_) rfl (Or.inl ⟨rfl, ?_⟩) ?_
            | refine wpSeqN_pure (v := ?_) rfl (Or.inl ⟨rfl, ?_⟩) ?_
          rotate_left
          focus (intro w hSw; (try dsimp only at hSw); first | (go_simp; done) | (go_simp; with_reducible rfl))
          simp only [Act.put, List.setIfInBounds_toArray, List.set_cons_zero, List.set_cons_succ]
        refine wpSeqN_loud rfl (fun K hK => ?_)
        go_simp
        refine hK.out _ _ (fun h => absurd h (by decide)) ?_
        clear hK K
        try simp only [Act.put, List.setIfInBounds_toArray, List.set_cons_zero, List.set_cons_succ]
        repeat
          first
            | refine wpSeqN_quiet (v := ?_) rfl (Or.inl ⟨rfl, ?_⟩) ?_
            | refine wpSeqN_pure (v := ?_) rfl (Or.inl ⟨rfl, ?_⟩) ?_
          rotate_left
          focus (intro w hSw; (try dsimp only at hSw); first | (go_simp; done) | (go_simp; with_reducible rfl))
          simp only [Act.put, List.setIfInBounds_toArray, List.set_cons_zero, List.set_cons_succ]
        refine wpSeqN_loud rfl (fun K hK => ?_)
        go_simp
        refine hK.out _ _ (fun h => absurd h (by decide)) ?_
        clear hK K
        try simp only [Act.put, List.setIfInBounds_toArray, List.set_cons_zero, List.set_cons_succ]
        refine wpSeqN_nil ?_
        go_upto_region 3 with (fail)
        refine cutW (fun w2 => SRep R w2 g u s z ∧ OwnS R w2 (25, 0) 3 (.slice (some ⟨cb, 0, none⟩) c.length cc) (ints d) ∧ Chg ARole R w R w2) ?_ ?_
        · have hcr : R cb = some (25, 0) := CR.out
          have k1 := Chg.setCell w1 H1.out.1.1.dom hcr 1 none (.int .i64 l)
          have k2 := Chg.setCell (w1.setCell ⟨cb, 1, none⟩ (.int .i64 l)) (H1.out.1.1.dom.setCell _ _) hcr k none (.int .i64 l1)
          have kk := (k1.trans k2).drew
          have o1 := HOW.out.set (i := 1) (by rw [ints_length]; omega) (.int .i64 l)
          rw [ints_set] at o1
          have o2 := o1.set (i := k) (by simp; omega) (.int .i64 l1)
          rw [ints_set, show (c'.set 1 l).set k l1 = d from HSW.out.symm] at o2
          exact ⟨H1.out.1.chg kk (fun i j hi e => by cases e; omega) ((H1.out.1.1.dom.setCell _ _).setCell _ _), o2.chg (S := fun _ => False) (Chg.refl _ _ _ ((H1.out.1.1.dom.setCell _ _).setCell _ _)).drew (fun h => h), H1.out.2.2.trans (kk.mono (by rintro r rfl; simp))⟩
        clear e1 e2 ek kf kf1 H1 HOW
        rintro w2 q2
        go_wp2
        go_roundg (gk - 1)
        case measure => have := HK.out; omega
        case rel => have := HK.out; exact ⟨k + 1, y, d, rfl, by go_num, by omega, by omega, hyb, hsl, HSL, HR, q2⟩
      · have hxy' : ¬ ((y : Int) > (x : Int)) := by omega
        have HR := Lib.hid (HST.out.2 hxy)
        clear hxy
        go_wp2
        go_roundg (gk - 1)
        case measure => have := HK.out; omega
        case rel => have := HK.out; exact ⟨k + 1, x, c', rfl, by go_num, by omega, by omega, hx, hcl', HL, HR, H1.out⟩
    · have HAT : Hid (z.attach c = ((z.back x).learnt c').forced c' x) := by
        have := HG.out
        rw [show M - k = 0 from by omega] at this
        show _ = _
        unfold SS.attach
        rw [← this]
        rfl
      have HBK := Lib.hid (back_calls H.out.1 HA.out.wf x hx (HA.out.limr x) HA.out.lim)
      obtain ⟨b1, b2, b3, b4, b5, b6, b7, b8, b9⟩ := back_same z x
      have HB1 := Lib.hid (And.intro b1 (And.intro b2 (And.intro b3 b4)))
      have HB2 := Lib.hid (And.intro b5 (And.intro b6 (And.intro b7 (And.intro b8 b9))))
      have hcl3 : c'.length ≤ 100000000 := by omega
      have HLC := Lib.hid hcl'
      rw [← hcl'] at H hc1 hlt
      rw [← hcl']
      clear HG hM hM1 hk hk1 b1 b2 b3 b4 b5 b6 b7 b8 b9
      generalize z.back x = y at *
      clear hcl'
      go_upto_region 9 with (go_at_call 58; refine HBK.out.mono ?_; rintro e w5 ⟨rfl, R5, u5, s5, q5, k5⟩)
      refine cutW (fun w5 => ∃ R5 u5 s5, SRep R5 w5 g u5 s5 y ∧ OwnS R5 w5 (25, 0) 3 (.slice ca c'.length cc) (ints c') ∧ Chg ARole R w R5 w5) ⟨R5, u5, s5, q5, H.out.2.1.chg k5 (by simp), H.out.2.2.trans (k5.mono (fun r h => by have : r.1 < 20 := h; show r.1 < 30; omega))⟩ ?_
      clear q5 k5 HBK H
      rintro w5 ⟨R5, u5, s5, q5, o5, k5⟩
      obtain ⟨la, lc, hlf, hlc1, hlc2, -⟩ := q5.2.lrn.form
      have h10 := q5.cells.1
      rw [hlf] at h10
      have d10 : w5.drew.cell? ⟨g, 10, none⟩ = some (.slice la s5.lrow.length lc) := h10
      have Q5 := Lib.hid (And.intro q5 (And.intro o5 (And.intro k5 hlf)))
      have HLL : Hid (s5.lrow.length = y.lrn.length) := q5.2.llen
      have hlll : y.lrn.length ≤ 1000000000 := by have := HA.out.lrn; rw [HB2.out.2.2.2.2]; exact this
      unfold maxLen at hlc2
      clear q5 o5 k5 hlf h10
      go_wp2_with fail
      refine wp_region_seq (fun w' => w'.cell? ⟨g, 10, none⟩ = some (.slice la s5.lrow.length lc)) [11]
        [(0, 2), (1, 2), (2, 2), (3, 2), (4, 1), (5, 2), (6, 0), (7, 0), (8, 0), (9, 2), (10, 2), (11, 0)]
        (by kernel_rfl) (by kernel_rfl) (fun c a d v w h => by cases d <;> exact h) (by kernel_rfl) d10 ?_
      repeat
        first
          | refine wpSeqN_quiet (v := ?_) rfl (Or.inl ⟨rfl, ?_⟩) ?_
          | refine wpSeqN_pure (v := ?_) rfl (Or.inl ⟨rfl, ?_⟩) ?_
        rotate_left
        focus (intro w hSw; (try dsimp only at hSw); first | (go_simp; done) | (go_simp; with_reducible rfl))
        simp only [Act.put, List.setIfInBounds_toArray, List.set_cons_zero, List.set_cons_succ]
      have hb0 : Below w5.heap.size w5 w5.drew := (Below.refl _ _).drew
      have HRD := Lib.hid ((Q5.out.2.1.rd.below hb0))
      refine wpSeqN_loud rfl (fun K hK => ?_)
      refine step_app_any (w0 := w5) Try.underlying23 info3 rfl rfl _ _ rfl (.slice none 0 0) [] rfl (World.ownsRow_nil _ _ 3 1) hb0 (ints c') rfl HRD.out (ints_one _) (by omega) (by simp; omega) ?_
      rintro a6 n6 c6 w6 ho6 hb6 - hn6
      have hg5 := Q5.out.1.1.glt
      have g10 := (hb6.cell (p := ⟨g, 10, none⟩) hg5).trans d10
      refine hK.out _ _ (fun _ => g10) ?_
      clear hK K
      try simp only [Act.put, List.setIfInBounds_toArray, List.set_cons_zero, List.set_cons_succ]
      rw [List.nil_append] at ho6
      have hn6' : n6 = c'.length := by simpa using hn6
      clear hn6
      subst hn6'
      obtain ⟨R6, o6, k6, d6⟩ := OwnS.tag (S := (· = (11, y.lrn.length))) (r := (11, y.lrn.length)) rfl Q5.out.1.1.dom (Below.toChg Q5.out.1.1.dom hb6 _) ho6
      have q6 : SRep R6 w6 g u5 s5 y := ⟨Q5.out.1.1.chg k6 (fun i j hi e => by cases e; omega) d6, Q5.out.1.2.tagL k6⟩
      have q7 := q6.alloc (.cells #[.slice a6 c'.length c6] 23)
      have o7 := o6.chg (Chg.alloc (fun _ => False) w6 d6 (.cells #[.slice a6 c'.length c6] 23)) (fun h => h)
      have g10' := q7.cells.1
      rw [Q5.out.2.2.2] at g10'
      refine wpSeqN_loud rfl (fun K hK => ?_)
      go_simp
      refine hK.out _ _ (fun _ => g10') ?_
      clear hK K
      try simp only [Act.put, List.setIfInBounds_toArray, List.set_cons_zero, List.set_cons_succ]
      refine wpSeqN_loud rfl (fun K hK => ?_)
      have ol := q7.2.lrn
      rw [Q5.out.2.2.2] at ol
      refine step_app Try.underlying22 info23 rfl rfl _ _ rfl _ _ rfl ol q7.1.dom _ 1 1 [.slice a6 c'.length c6] rfl rfl (cell_one_new _ _ _) (by simp [Value.oneCell']) (by omega) (by rw [HLL.out]; omega) ?_
      rintro a8 n8 c8 w8 R8 ho8 k8 hd8 hn8
      obtain ⟨g10'', f10⟩ := q7.1.gkept k8 (by simp) 10
      rw [g10'] at g10''
      refine hK.out _ _ (fun _ => g10'') ?_
      clear hK K
      try simp only [Act.put, List.setIfInBounds_toArray, List.set_cons_zero, List.set_cons_succ]
      have HL8 := Lib.hid (q7.setLrn k8 hd8 ho8 o7)
      have HO8 := Lib.hid ((((Q5.out.2.1.chg k6 (by simp)).chg (Chg.alloc (fun _ => False) w6 d6 (.cells #[.slice a6 c'.length c6] 23)) (fun h => h))).chg k8 (by simp))
      have HK8 := Lib.hid ((Q5.out.2.2.1.trans (k6.mono (by rintro r rfl; simp))).trans ((Chg.alloc ARole w6 d6 (.cells #[.slice a6 c'.length c6] 23))))
      have HD8 := Lib.hid (And.intro hd8 (show R8 g = some (0, 0) by rw [k8.old g q7.1.glt]; exact q7.1.rg))
      clear ho8 k8 hd8 ol q7 o7 q6 o6 k6 d6 ho6 hb6 g10 g10' d10 hn8
      repeat
        first
          | refine wpSeqN_quiet (v := ?_) rfl (Or.inl ⟨rfl, ?_⟩) ?_
          | refine wpSeqN_pure (v := ?_) rfl (Or.inl ⟨rfl, ?_⟩) ?_
        rotate_left
        focus (intro w hSw; (try dsimp only at hSw); first | (go_simp; done) | (go_simp; with_reducible rfl))
        simp only [Act.put, List.setIfInBounds_toArray, List.set_cons_zero, List.set_cons_succ]
      refine wpSeqN_loud rfl (fun K hK => ?_)
      go_simp
      refine hK.out _ _ (fun h => absurd h (by decide)) ?_
      clear hK K
      try simp only [Act.put, List.setIfInBounds_toArray, List.set_cons_zero, List.set_cons_succ]
      refine wpSeqN_nil ?_
      go_upto_region 10 with (fail)
      refine cutW (fun w9 => ∃ R9 u9 s9, SRep R9 w9 g u9 s9 { y with lrn := y.lrn ++ [c'] } ∧ OwnS R9 w9 (25, 0) 3 (.slice ca c'.length cc) (ints c') ∧ Chg ARole R w R9 w9) ⟨R8, u5, _, HL8.out.1, HO8.out.chg (Chg.setCell _ HD8.out.1 HD8.out.2 10 none _) (by simp), HK8.out.trans (HL8.out.2.mono (fun r h => by have : r.1 < 20 := h; show r.1 < 30; omega))⟩ ?_
      clear HL8 HO8 HK8 HD8 g10'' f10 Q5 HLL
      rintro w9 ⟨R9, u9, s9, q9, o9, k9⟩
      have hlits : ∀ l, l ∈ c' → Lit z.p.n l := fun l hl => HA.out.lit l (HL.out l hl)
      have hnm := HA.out.wf.nmax
      have hwl := HA.out.wf.wat
      have HAD := Lib.hid (add_calls q9.1 o9.rd (by omega) (by show y.p.cls.length < _; rw [HB1.out.1]; have := HA.out.cn; omega) (by show y.p.uni.length < _; rw [HB1.out.2.2.1]; have := HA.out.un; omega)
        (fun l hl => by show 0 ≤ y.p.n + l ∧ y.p.n + l < y.p.wat.length; rw [HB1.out.2.1, HB1.out.2.2.2]; have := (hlits l hl).2; omega) (by show y.p.wat.length ≤ _; rw [HB1.out.2.1]; omega)
        (fun r hr => by have := HA.out.rows r (by rw [← HB1.out.2.1]; exact hr); omega))
      have HLI := Lib.hid hlits
      have HQ9 := Lib.hid (And.intro q9 (And.intro o9 k9))
      clear hlits hnm hwl q9 o9 k9
      go_upto_region 11 with (go_at_call 45; refine HAD.out.mono ?_; rintro e w10 ⟨rfl, R10, u10, q10, k10⟩)
      refine cutW (fun w10 => ∃ R10 u10, SRep R10 w10 g u10 s9 (y.learnt c') ∧ OwnS R10 w10 (25, 0) 3 (.slice ca c'.length cc) (ints c') ∧ Chg ARole R w R10 w10) ⟨R10, u10, (HQ9.out.1.lift q10 k10 (add_same y.p c').2.1).1, HQ9.out.2.1.chg k10 (by simp), HQ9.out.2.2.trans (k10.mono (fun r h => by have : r.1 < 9 := h; show r.1 < 30; omega))⟩ ?_
      clear q10 k10 HQ9 HAD
      rintro w10 ⟨R10, u10, q10, o10, k10⟩
      have Q10 := Lib.hid (And.intro q10 (And.intro o10 k10))
      clear q10 o10 k10
      by_cases h1c : 1 < c'.length
      · have h1i : (1 : Int) < (c'.length : Int) := by omega
        have h0c : 0 < c'.length := by omega
        have h0i : (0 : Int) < (c'.length : Int) := by omega
        have HFO : Hid (z.attach c = { y.learnt c' with p := (y.learnt c').p.set (c'.getD 0 0) (((y.learnt c').p.cls.length : Int) - 1), lev := (y.learnt c').lev.set (c'.getD 0 0).natAbs x }) := by show _ = _; rw [HAT.out]; unfold SS.forced; rw [if_pos h1c]
        obtain ⟨cb, cc2, e1, -, -, hcbR, -, ccell, -⟩ := Q10.out.2.1.cell (i := 0) (by rw [ints_length]; omega)
        have HCB := Lib.hid hcbR
        simp only [Value.slice.injEq] at e1
        obtain ⟨rfl, -, -⟩ := e1
        rw [ints_get (by omega)] at ccell
        have hlit := HLI.out _ (getD_mem (d := 0) (l := c') (i := 0) (by omega))
        have hwlit := HA.out.wf.litOk hlit
        obtain ⟨-, an, av, ar, at', -, -, -, -, -⟩ := add_same y.p c'
        have hvl : (c'.getD 0 0).natAbs < (y.learnt c').p.val.length := by show _ < (y.p.add c').val.length; rw [av, HB2.out.1]; exact hwlit.val
        have hrl : (c'.getD 0 0).natAbs < (y.learnt c').p.rea.length := by show _ < (y.p.add c').rea.length; rw [ar, HB2.out.2.1]; exact hwlit.rea
        have hvm : (y.learnt c').p.val.length ≤ 1000000000 := by show (y.p.add c').val.length ≤ _; rw [av, HB2.out.1]; have := HA.out.wf.val; have := HA.out.wf.nmax; omega
        have htm : (y.learnt c').p.tra.length < 1000000000 := by show (y.p.add c').tra.length < _; rw [at']; have := HB2.out.2.2.1; have := HA.out.tra; omega
        have hll : (c'.getD 0 0).natAbs < (y.learnt c').lev.length := by show _ < y.lev.length; rw [HB2.out.2.2.2.1]; have := HA.out.lev; have := hlit.2; omega
        have hla : ((c'.getD 0 0).natAbs : Int) ≤ 100000000 := by have := hlit.2; have := HA.out.wf.nmax; omega
        have hNl : (y.learnt c').p.cls.length ≤ 1000000000 ∧ 1 ≤ (y.learnt c').p.cls.length := by
          show (y.p.add c').cls.length ≤ _ ∧ 1 ≤ (y.p.add c').cls.length
          rw [(add_same y.p c').1, List.length_append, HB1.out.1, List.length_singleton]; have := HA.out.cn; omega
        obtain ⟨ka, kc, hkf, hkc1, hkc2, -⟩ := Q10.out.1.1.cls.form
        rw [Q10.out.1.1.clen] at hkf hkc1
        have h0 := Q10.out.1.1.cells.1
        rw [hkf] at h0
        generalize hY : y.learnt c' = Y at *
        generalize hcl0 : c'.getD 0 0 = l at *
        have HCL0 := Lib.hid hcl0
        clear hcl0
        have hsum : IntKind.i64.wrap ((Y.p.cls.length : Int) - 1) = (Y.p.cls.length : Int) - 1 := IntWalk.i64_in _ (by omega)
        have SC := Lib.hid (set_calls (Q10.out.1.1.chg (S := fun _ => False) (Chg.refl _ _ _ Q10.out.1.1.dom).drew (fun _ _ _ h => h) Q10.out.1.1.dom) l ((Y.p.cls.length : Int) - 1) hvl hrl hvm htm)
        have c0 : w10.drew.cell? ⟨cb, 0, none⟩ = some (.int .i64 l) := ccell
        have g0 : w10.drew.cell? ⟨g, 0, none⟩ = some (.slice ka Y.p.cls.length kc) := h0
        unfold maxLen at hkc2
        have HNL := Lib.hid hNl
        have HLL := Lib.hid hll
        have HKF := Lib.hid hkf
        clear hkf hcbR hvl hrl hvm htm hlit hwlit an av ar at' h0 ccell hNl hll
        go_wp2_with fail
        refine wp_region_seq (fun w' => w'.cell? ⟨cb, 0, none⟩ = some (.int .i64 l) ∧ w'.cell? ⟨g, 0, none⟩ = some (.slice ka Y.p.cls.length kc)) [13]
          [(0, 2), (1, 2), (2, 2), (3, 2), (4, 2), (5, 1), (6, 2), (7, 2), (8, 2), (9, 2), (10, 0), (11, 2), (12, 2), (13, 0)]
          (by kernel_rfl) (by kernel_rfl) (fun c a d v w h => by cases d <;> exact h) (by kernel_rfl) ⟨c0, g0⟩ ?_
        repeat
          first
            | refine wpSeqN_quiet (v := ?_) rfl (Or.inl ⟨rfl, ?_⟩) ?_
            | refine wpSeqN_pure (v := ?_) rfl (Or.inl ⟨rfl, ?_⟩) ?_
          rotate_left
          focus (intro w hSw; (try dsimp only at hSw); first | (go_simp; done) | (go_simp; with_reducible rfl))
          simp only [Act.put, List.setIfInBounds_toArray, List.set_cons_zero, List.set_cons_succ]
        refine wpSeqN_loud rfl (fun K hK => ?_)
        go_simp
        refine hK.out _ _ (fun _ => ⟨c0, g0⟩) ?_
        clear hK K
        try simp only [Act.put, List.setIfInBounds_toArray, List.set_cons_zero, List.set_cons_succ]
        repeat
          first
            | refine wpSeqN_quiet (v := ?_) rfl (Or.inl ⟨rfl, ?_⟩) ?_
            | refine wpSeqN_pure (v := ?_) rfl (Or.inl ⟨rfl, ?_⟩) ?_
          rotate_left
          focus (intro w hSw; (try dsimp only at hSw); first | (go_simp; done) | (go_simp; with_reducible rfl))
          simp only [Act.put, List.setIfInBounds_toArray, List.set_cons_zero, List.set_cons_succ]
        refine wpSeqN_loud rfl (fun K hK => ?_)
        go_simp
        refine SC.out.mono ?_
        rintro e w11 ⟨rfl, R11, u11, q11, k11, hu⟩
        have s0 : w11.cell? ⟨g, 0, none⟩ = some (.slice ka Y.p.cls.length kc) := by
          have := q11.cells.1
          rw [hu] at this
          rw [this]
          exact congrArg some HKF.out
        have s1 : w11.cell? ⟨cb, 0, none⟩ = some (.int .i64 l) := k11.cell c0 (fun r hr => by rw [HCB.out] at hr; cases hr; simp)
        clear hu
        refine hK.out _ _ (fun _ => ⟨s1, s0⟩) ?_
        clear hK K
        try simp only [Act.put, List.setIfInBounds_toArray, List.set_cons_zero, List.set_cons_succ]
        refine wpSeqN_nil ?_
        go_upto_region 13 with (fail)
        refine cutW (fun w11 => ∃ R11 u11, SRep R11 w11 g u11 s9 { Y with p := Y.p.set l ((Y.p.cls.length : Int) - 1) } ∧ OwnS R11 w11 (25, 0) 3 (.slice (some ⟨cb, 0, none⟩) c'.length cc) (ints c') ∧ Chg ARole R w R11 w11) ?_ ?_
        · have kd := (Chg.refl (fun _ => False) R10 w10 Q10.out.1.1.dom).drew
          have q0 := Q10.out.1.drew
          exact ⟨R11, u11, (q0.lift q11 k11 rfl).1, (Q10.out.2.1.chg kd (fun h => h)).chg k11 (by simp), (Q10.out.2.2.drew).trans (k11.mono (fun r h => by have : r.1 < 9 := h; show r.1 < 30; omega))⟩
        clear q11 k11 SC Q10 c0 g0
        rintro w12 ⟨R12, u12', q12, o12, k12⟩
        obtain ⟨cb2, cc3, e1, -, -, -, -, ccell, -⟩ := o12.cell (i := 0) (by rw [ints_length]; omega)
        simp only [Value.slice.injEq, Option.some.injEq, Addr.mk.injEq, and_true] at e1
        obtain ⟨rfl, -, -⟩ := e1
        rw [ints_get (by omega), HCL0.out] at ccell
        obtain ⟨vb, vc, h12, lcell, lf, hset⟩ := q12.atLev (i := l.natAbs) HLL.out
        have hll : l.natAbs < Y.lev.length := HLL.out
        have h12' : w12.cell? ⟨g, 12, none⟩ = some (.slice (some ⟨vb, 0, none⟩) Y.lev.length vc) := h12
        have Q12 := Lib.hid (And.intro q12 (And.intro k12 (hset (x : Int))))
        clear q12 k12 o12 hset h12 HLL
        go_wp2_with fail
        go_still_tail 10, (by kernel_rfl)
        still_call (mag_still _ _ (by omega) (by omega))
        repeat still_step
        refine wpStill_nil ?_
        go_wp2
        go_end0
        exact ⟨rfl, R12, u12', s9, by rw [HFO.out]; exact Q12.out.2.2.1.drew, (Q12.out.2.1.trans (Q12.out.2.2.2.mono (fun r h => by have : r.1 < 20 := h; show r.1 < 30; omega))).drew⟩
      · have HFO : Hid (z.attach c = y.learnt c') := by show _ = _; rw [HAT.out]; unfold SS.forced; rw [if_neg h1c]
        go_wp2
        go_end0
        exact ⟨rfl, R10, u10, s9, by rw [HFO.out]; exact Q10.out.1, Q10.out.2.2⟩
end Go.Proofs.Ytjbdiobnlmhidaa
namespace Go.Proofs.Ytjbdiobnlmhidaa

/-- the level of a position of the trail -/
def lvl (lim : List Nat) (t : Nat) : Nat := lim.countP (fun x => decide (x ≤ t))
theorem lvl_mono (lim : List Nat) {s t : Nat} (h : s ≤ t) : lvl lim s ≤ lvl lim t := by
  unfold lvl
  exact List.countP_mono_left (fun x _ hx => by simp only [decide_eq_true_eq] at *; omega)
theorem lvl_le (lim : List Nat) (t : Nat) : lvl lim t ≤ lim.length := List.countP_le_length
theorem lvl_lt {lim : List Nat} {s t : Nat} (h : s < t) (ht : t ∈ lim) : lvl lim s < lvl lim t := by
  unfold lvl
  induction lim with
  | nil => cases ht
  | cons x r ih =>
    rw [List.countP_cons, List.countP_cons]
    rcases List.mem_cons.1 ht with e | hr
    · subst e
      have := lvl_mono r (Nat.le_of_lt h)
      unfold lvl at this
      rw [if_neg (by simp; omega), if_pos (by simp)]
      omega
    · have := ih hr
      by_cases hs : x ≤ s
      · rw [if_pos (by simpa using hs), if_pos (by simp; omega)]; omega
      · rw [if_neg (by simpa using hs)]
        split <;> omega
theorem lvl_pos {lim : List Nat} {t : Nat} (ht : t ∈ lim) : 0 < lvl lim t := by
  unfold lvl
  exact List.countP_pos_iff.2 ⟨t, ht, by simp⟩
/-- the limits ascend: level k is open at t if limit k is not behind t -/
theorem lvl_iff {lim : List Nat} (hs : lim.Pairwise (· ≤ ·)) (k t : Nat) : k < lvl lim t ↔ k < lim.length ∧ lim.getD k 0 ≤ t := by
  unfold lvl
  induction lim generalizing k with
  | nil => simp
  | cons x r ih =>
    rw [List.pairwise_cons] at hs
    rw [List.countP_cons]
    by_cases hx : x ≤ t
    · rw [if_pos (by simpa using hx)]
      cases k with
      | zero => simp [hx]
      | succ k => simp only [List.length_cons, List.getD_cons_succ]; rw [Nat.add_lt_add_iff_right, ih hs.2]; omega
    · rw [if_neg (by simpa using hx)]
      have h0 : r.countP (fun x => decide (x ≤ t)) = 0 := List.countP_eq_zero.2 (fun y hy => by have := hs.1 y hy; simp; omega)
      rw [h0]
      refine ⟨fun h => by omega, fun ⟨h1, h2⟩ => ?_⟩
      cases k with
      | zero => simp at h2; omega
      | succ k =>
        simp only [List.length_cons, List.getD_cons_succ] at h1 h2
        have hk : k < r.length := by omega
        have := hs.1 _ (getD_mem (d := 0) hk)
        omega

theorem countP_one {p q : Nat → Bool} : ∀ (a t0 : Nat), t0 < a → p t0 = false → q t0 = true → (∀ t, t < a → t ≠ t0 → q t = p t) → (List.range a).countP q = (List.range a).countP p + 1 := by
  intro a
  induction a with
  | zero => intro t0 h; omega
  | succ a ih =>
    intro t0 h hp hq he
    rw [List.range_succ, List.countP_append, List.countP_append, List.countP_singleton, List.countP_singleton]
    by_cases e : t0 = a
    · subst e
      have : (List.range t0).countP q = (List.range t0).countP p := List.countP_congr (fun t ht => by rw [he t (by have := List.mem_range.1 ht; omega) (by have := List.mem_range.1 ht; omega)])
      rw [this, hp, hq]; simp
    · rw [ih t0 (by omega) hp hq (fun t ht hne => he t (by omega) hne), he a (by omega) (fun h => e h.symm)]
      omega

/-- the state in which a conflict is analysed -/
structure CI (S : List (List Int)) (z : SS) : Prop where
  pi : ∃ hp, PI z.lim (fun _ => True) S hp z.p.watch z.p ∧ ∀ x, x ∈ z.lim → x ≤ hp
  srt : z.lim.Pairwise (· ≤ ·)
  ll : (z.lev.length : Int) = z.p.n + 1
  lv : ∀ t, t < z.p.tra.length → z.lev.getD (z.p.tra.getD t 0).natAbs 0 = lvl z.lim t
  dec : ∀ t, t < z.p.tra.length → z.p.rea.getD (z.p.tra.getD t 0).natAbs 0 < 0 → t ∈ z.lim

def topB (z : SS) (top : Int) (seen : List Bool) (t : Nat) : Bool := seen.getD (z.p.tra.getD t 0).natAbs false && decide (z.lev.getD (z.p.tra.getD t 0).natAbs 0 = top)
theorem topB_iff {z : SS} {top : Int} {seen : List Bool} {t : Nat} : topB z top seen t = true ↔ seen.getD (z.p.tra.getD t 0).natAbs false = true ∧ z.lev.getD (z.p.tra.getD t 0).natAbs 0 = top := by
  unfold topB; simp only [Bool.and_eq_true, decide_eq_true_eq]

/-- the analysis: positions from a on are passed; that at e is not resolved -/
structure JI (z : SS) (top : Int) (x : XS) (a e : Nat) : Prop where
  sl : (x.seen.length : Int) = z.p.n + 1
  sn : ∀ v, x.seen.getD v false = true → ∃ t, t < z.p.tra.length ∧ (z.p.tra.getD t 0).natAbs = v ∧ z.lev.getD v 0 ≠ 0
  rs : ∀ m, m ∈ x.rest → x.seen.getD m.natAbs false = true ∧ -m ∈ z.p.tra ∧ z.lev.getD m.natAbs 0 < top
  rc : ∀ v, x.seen.getD v false = true → z.lev.getD v 0 ≠ top → ∃ m, m ∈ x.rest ∧ m.natAbs = v
  rn : (x.rest.map Int.natAbs).Nodup
  op : x.opn = ((List.range a).countP (topB z top x.seen) : Nat)
  al : a ≤ z.p.tra.length
  pr : ∀ t, a ≤ t → t < z.p.tra.length → t ≠ e → topB z top x.seen t = true → ∃ k : Nat, z.p.rea.getD (z.p.tra.getD t 0).natAbs 0 = k ∧ k < z.p.cls.length ∧ ∀ m, m ∈ z.p.cls.getD k [] → m = z.p.tra.getD t 0 ∨ x.seen.getD m.natAbs false = true ∨ z.lev.getD m.natAbs 0 = 0

theorem JI.start {z : SS} {top : Int} {n e : Nat} (hn : z.p.n = n) : JI z top ⟨List.replicate (n + 1) false, [], 0⟩ z.p.tra.length e where
  sl := by rw [hn]; simp
  sn v h := by rw [getD_rep] at h; split at h <;> cases h
  rs m h := by cases h
  rc v h := by rw [getD_rep] at h; split at h <;> cases h
  rn := List.nodup_nil
  op := by
    have : (List.range z.p.tra.length).countP (topB z top (List.replicate (n + 1) false)) = 0 := List.countP_eq_zero.2 (fun t _ h => by
      have := (topB_iff.1 h).1
      rw [getD_rep] at this; split at this <;> cases this)
    simp only [this]; rfl
  al := Nat.le_refl _
  pr t h1 h2 := by omega

section
variable {S : List (List Int)} {z : SS} {top : Int} {x : XS} {a e : Nat}

theorem seen_set {seen : List Bool} {v w : Nat} (hv : v < seen.length) : (seen.set v true).getD w false = true ↔ (w = v ∨ seen.getD w false = true) := by
  rw [getD_set]
  by_cases h : v = w
  · subst h; simp [hv]
  · rw [if_neg (fun h' => h h'.1)]
    exact ⟨fun h' => .inr h', fun h' => h'.resolve_left (fun h2 => h h2.symm)⟩

theorem JI.lit (hc : CI S z) (h : JI z top x a e) {pivot m : Int} (hm : m ≠ pivot → (∃ t, t < a ∧ z.p.tra.getD t 0 = -m) ∧ z.lev.getD m.natAbs 0 ≤ top) :
    JI z top (visitLit z.lev top pivot x m) a e ∧ (m = pivot ∨ (visitLit z.lev top pivot x m).seen.getD m.natAbs false = true ∨ z.lev.getD m.natAbs 0 = 0) ∧ ∀ v, x.seen.getD v false = true → (visitLit z.lev top pivot x m).seen.getD v false = true := by
  obtain ⟨hp, hpi, -⟩ := hc.pi
  unfold visitLit
  by_cases hs : m = pivot ∨ x.seen.getD m.natAbs false = true ∨ z.lev.getD m.natAbs 0 = 0
  · rw [if_pos hs]
    exact ⟨h, hs, fun v hv => hv⟩
  · rw [if_neg hs]
    have hs1 : m ≠ pivot := fun e => hs (.inl e)
    have hs2 : ¬ x.seen.getD m.natAbs false = true := fun e => hs (.inr (.inl e))
    have hs3 : ¬ z.lev.getD m.natAbs 0 = 0 := fun e => hs (.inr (.inr e))
    obtain ⟨⟨t0, ht0, e0⟩, hle⟩ := hm hs1
    have htl : t0 < z.p.tra.length := Nat.lt_of_lt_of_le ht0 h.al
    have hab : (z.p.tra.getD t0 0).natAbs = m.natAbs := by rw [e0, Int.natAbs_neg]
    have hmt : -m ∈ z.p.tra := by rw [← e0]; exact getD_mem htl
    have hml := (hpi.wf.tra _ hmt).2
    rw [Int.natAbs_neg] at hml
    have hvs : m.natAbs < x.seen.length := by have := h.sl; omega
    have uniq : ∀ t, t < z.p.tra.length → (z.p.tra.getD t 0).natAbs = m.natAbs → t = t0 := fun t ht et => hpi.pos_inj ht htl (by rw [et, hab])
    have hpf : topB z top x.seen t0 = false := by
      rcases hb : topB z top x.seen t0 with _ | _
      · rfl
      · have := (topB_iff.1 hb).1
        rw [hab] at this
        exact absurd this hs2
    have hsn : ∀ v, (x.seen.set m.natAbs true).getD v false = true → ∃ t, t < z.p.tra.length ∧ (z.p.tra.getD t 0).natAbs = v ∧ z.lev.getD v 0 ≠ 0 := fun v hv => by
      rcases (seen_set hvs).1 hv with rfl | hv
      · exact ⟨t0, htl, hab, hs3⟩
      · exact h.sn v hv
    have hother : ∀ t, t < z.p.tra.length → t ≠ t0 → topB z top (x.seen.set m.natAbs true) t = topB z top x.seen t := fun t ht hne => by
      have : (z.p.tra.getD t 0).natAbs ≠ m.natAbs := fun et => hne (uniq t ht et)
      unfold topB
      rw [getD_set, if_neg (fun h => this h.1.symm)]
    have hpr : ∀ t, a ≤ t → t < z.p.tra.length → t ≠ e → topB z top (x.seen.set m.natAbs true) t = true → ∃ k : Nat, z.p.rea.getD (z.p.tra.getD t 0).natAbs 0 = k ∧ k < z.p.cls.length ∧ ∀ m', m' ∈ z.p.cls.getD k [] → m' = z.p.tra.getD t 0 ∨ (x.seen.set m.natAbs true).getD m'.natAbs false = true ∨ z.lev.getD m'.natAbs 0 = 0 := fun t h1 h2 h3 h4 => by
      rw [hother t h2 (by omega)] at h4
      obtain ⟨k, e1, e2, e3⟩ := h.pr t h1 h2 h3 h4
      exact ⟨k, e1, e2, fun m' hm' => (e3 m' hm').imp_right (fun h => h.imp_left (fun h => (seen_set hvs).2 (.inr h)))⟩
    by_cases htop : z.lev.getD m.natAbs 0 = top
    · rw [if_pos htop]
      refine ⟨⟨by simp [h.sl], hsn, fun m' hm' => ?_, fun v hv hne => ?_, h.rn, ?_, h.al, hpr⟩, .inr (.inl ((seen_set hvs).2 (.inl rfl))), fun v hv => (seen_set hvs).2 (.inr hv)⟩
      · obtain ⟨f1, f2⟩ := h.rs m' hm'
        exact ⟨(seen_set hvs).2 (.inr f1), f2⟩
      · rcases (seen_set hvs).1 hv with rfl | hv
        · exact absurd htop hne
        · exact h.rc v hv hne
      · show x.opn + 1 = _
        rw [countP_one (p := topB z top x.seen) (q := topB z top (x.seen.set m.natAbs true)) a t0 ht0 hpf (topB_iff.2 ⟨by rw [hab]; exact (seen_set hvs).2 (.inl rfl), by rw [hab]; exact htop⟩) (fun t ht hne => hother t (Nat.lt_of_lt_of_le ht h.al) hne), h.op]
        omega
    · rw [if_neg htop]
      refine ⟨⟨by simp [h.sl], hsn, fun m' hm' => ?_, fun v hv hne => ?_, ?_, ?_, h.al, hpr⟩, .inr (.inl ((seen_set hvs).2 (.inl rfl))), fun v hv => (seen_set hvs).2 (.inr hv)⟩
      · rcases List.mem_append.1 hm' with hm' | hm'
        · obtain ⟨f1, f2⟩ := h.rs m' hm'
          exact ⟨(seen_set hvs).2 (.inr f1), f2⟩
        · obtain rfl : m' = m := by simpa using hm'
          exact ⟨(seen_set hvs).2 (.inl rfl), hmt, by omega⟩
      · rcases (seen_set hvs).1 hv with rfl | hv
        · exact ⟨m, by simp, rfl⟩
        · obtain ⟨m', f1, f2⟩ := h.rc v hv hne
          exact ⟨m', by simp [f1], f2⟩
      · show ((x.rest ++ [m]).map Int.natAbs).Nodup
        rw [List.map_append, List.nodup_append]
        refine ⟨h.rn, by simp, fun u hu w hw => ?_⟩
        obtain ⟨m', hm', rfl⟩ := List.mem_map.1 hu
        obtain rfl : w = m.natAbs := by simpa using hw
        intro e
        have := (h.rs m' hm').1
        rw [e] at this
        exact hs2 this
      · show x.opn = _
        rw [h.op]
        congr 1
        refine List.countP_congr (fun t ht => ?_)
        have htl' : t < z.p.tra.length := Nat.lt_of_lt_of_le (List.mem_range.1 ht) h.al
        by_cases et : t = t0
        · subst et
          rw [hpf]
          rcases hb : topB z top (x.seen.set m.natAbs true) t with _ | _
          · exact Iff.rfl
          · have := (topB_iff.1 hb).2
            rw [hab] at this
            exact absurd this htop
        · rw [hother t htl' et]

theorem JI.visit (hc : CI S z) {pivot : Int} : ∀ (c : List Int) (x : XS), JI z top x a e → (∀ m, m ∈ c → m ≠ pivot → (∃ t, t < a ∧ z.p.tra.getD t 0 = -m) ∧ z.lev.getD m.natAbs 0 ≤ top) →
    JI z top (visitC z.lev top pivot c x) a e ∧ (∀ m, m ∈ c → m = pivot ∨ (visitC z.lev top pivot c x).seen.getD m.natAbs false = true ∨ z.lev.getD m.natAbs 0 = 0) ∧ ∀ v, x.seen.getD v false = true → (visitC z.lev top pivot c x).seen.getD v false = true := by
  intro c
  induction c with
  | nil => intro x h _; exact ⟨h, (fun m hm => by cases hm), fun v hv => hv⟩
  | cons m r ih =>
    intro x h hm
    obtain ⟨h1, h2, h3⟩ := h.lit hc (hm m (by simp))
    obtain ⟨g1, g2, g3⟩ := ih _ h1 (fun m' hm' => hm m' (by simp [hm']))
    refine ⟨g1, fun m' hm' => ?_, fun v hv => g3 v (h3 v hv)⟩
    rcases List.mem_cons.1 hm' with rfl | hm'
    · exact h2.imp_right (fun h => h.imp_left (fun h => g3 _ h))
    · exact g2 m' hm'

theorem JI.skip (h : JI z top x (a + 1) e) (hn : topB z top x.seen a = false) : JI z top x a e :=
  ⟨h.sl, h.sn, h.rs, h.rc, h.rn, by rw [h.op, List.range_succ, List.countP_append, List.countP_singleton, hn]; simp, Nat.le_of_succ_le h.al, fun t h1 h2 h3 h4 => by
    by_cases e : t = a
    · rw [e, hn] at h4; cases h4
    · exact h.pr t (by omega) h2 h3 h4⟩

theorem JI.found (h : JI z top x (a + 1) z.p.tra.length) (hn : topB z top x.seen a = true) : JI z top { x with opn := x.opn - 1 } a a :=
  ⟨h.sl, h.sn, h.rs, h.rc, h.rn, by show x.opn - 1 = _; rw [h.op, List.range_succ, List.countP_append, List.countP_singleton, hn]; simp, Nat.le_of_succ_le h.al, fun t h1 h2 h3 h4 => h.pr t (by omega) h2 (by omega) h4⟩

theorem JI.resolve (h : JI z top x a a) {k : Nat} (hk : z.p.rea.getD (z.p.tra.getD a 0).natAbs 0 = k) (hkl : k < z.p.cls.length) (hc : ∀ m, m ∈ z.p.cls.getD k [] → m = z.p.tra.getD a 0 ∨ x.seen.getD m.natAbs false = true ∨ z.lev.getD m.natAbs 0 = 0) : JI z top x a z.p.tra.length :=
  ⟨h.sl, h.sn, h.rs, h.rc, h.rn, h.op, h.al, fun t h1 h2 h3 h4 => by
    by_cases e : t = a
    · subst e; exact ⟨k, hk, hkl, hc⟩
    · exact h.pr t h1 h2 e h4⟩

/-- an open literal is still to come -/
theorem JI.more (h : JI z top x a e) (ho : x.opn ≠ 0) : 0 < a ∧ ∃ t, t < a ∧ topB z top x.seen t = true := by
  have h0 := h.op
  have : 0 < (List.range a).countP (topB z top x.seen) := by omega
  obtain ⟨t, ht, hp⟩ := List.countP_pos_iff.1 this
  have := List.mem_range.1 ht
  exact ⟨by omega, t, this, hp⟩

theorem JI.opn0 (h : JI z top x a e) : 0 ≤ x.opn ∧ x.opn ≤ a := by
  have h0 := h.op
  have : (List.range a).countP (topB z top x.seen) ≤ (List.range a).length := List.countP_le_length
  rw [List.length_range] at this
  omega

theorem JI.restlen (hc : CI S z) (h : JI z top x a e) : (x.rest.length : Int) ≤ z.p.n := by
  obtain ⟨hp, hpi, -⟩ := hc.pi
  have h1 := nodup_range z.p.n.toNat 1 _ h.rn (fun v hv => by
    obtain ⟨m, hm, rfl⟩ := List.mem_map.1 hv
    have hl := hpi.wf.tra _ (h.rs m hm).2.1
    have h1 := hl.1
    have h2 := hl.2
    rw [Int.natAbs_neg] at h2
    omega)
  rw [List.length_map] at h1
  have := hpi.wf.n0
  omega

/-- the reason of a literal that is not the last one of its level -/
theorem CI.reason (hc : CI S z) {a s : Nat} (ha : a < z.p.tra.length) (hs : s < a) (hl : z.lev.getD (z.p.tra.getD s 0).natAbs 0 = z.lev.getD (z.p.tra.getD a 0).natAbs 0) :
    ∃ k : Nat, z.p.rea.getD (z.p.tra.getD a 0).natAbs 0 = k ∧ k < z.p.cls.length ∧ z.p.tra.getD a 0 ∈ z.p.cls.getD k [] ∧ ∀ m, m ∈ z.p.cls.getD k [] → m ≠ z.p.tra.getD a 0 → (∃ t, t < a ∧ z.p.tra.getD t 0 = -m) ∧ z.lev.getD m.natAbs 0 ≤ z.lev.getD (z.p.tra.getD a 0).natAbs 0 := by
  obtain ⟨hp, hpi, -⟩ := hc.pi
  rcases hpi.rs a ha with ⟨h1, -⟩ | ⟨k, h1, h2, h3, h4⟩
  · have hd := hc.dec a ha h1
    rw [hc.lv s (by omega), hc.lv a ha] at hl
    have := lvl_lt hs hd
    omega
  · refine ⟨k, h1, h2, h3, fun m hm hne => ?_⟩
    obtain ⟨t, ht, et⟩ := mem_getD (0 : Int) (h4 m hm hne)
    rw [List.length_take] at ht
    rw [getD_take (by omega)] at et
    refine ⟨⟨t, by omega, et⟩, ?_⟩
    have e1 := hc.lv t (by omega)
    rw [et, Int.natAbs_neg] at e1
    rw [e1, hc.lv a ha]
    have := lvl_mono z.lim (s := t) (t := a) (by omega)
    omega

/-- what the learned clause says follows by unit propagation -/
theorem JI.rup (hc : CI S z) (h : JI z top x a a) (ha : a < z.p.tra.length) (h0 : x.opn = 0) (hta : topB z top x.seen a = true) {F : Nat} (hF : F < z.p.cls.length) (hFf : ∀ m, m ∈ z.p.cls.getD F [] → -m ∈ z.p.tra) (hFs : ∀ m, m ∈ z.p.cls.getD F [] → x.seen.getD m.natAbs false = true ∨ z.lev.getD m.natAbs 0 = 0) :
    Conf S (neg (-(z.p.tra.getD a 0) :: x.rest)) := by
  obtain ⟨hp, hpi, -⟩ := hc.pi
  have key : ∀ N t, t < N → t < z.p.tra.length → (x.seen.getD (z.p.tra.getD t 0).natAbs false = true ∨ z.lev.getD (z.p.tra.getD t 0).natAbs 0 = 0) → Der S (neg (-(z.p.tra.getD a 0) :: x.rest)) (z.p.tra.getD t 0) := by
    intro N
    induction N with
    | zero => intro t h; omega
    | succ N ih =>
      intro t ht htl hst
      -- from a reason
      have step : ∀ k : Nat, z.p.rea.getD (z.p.tra.getD t 0).natAbs 0 = k → (∀ m, m ∈ z.p.cls.getD k [] → m ≠ z.p.tra.getD t 0 → x.seen.getD m.natAbs false = true ∨ z.lev.getD m.natAbs 0 = 0) → Der S (neg (-(z.p.tra.getD a 0) :: x.rest)) (z.p.tra.getD t 0) := fun k hk hall => by
        rcases hpi.rs t htl with ⟨h1, -⟩ | ⟨k', h1, h2, h3, h4⟩
        · omega
        · obtain rfl : k' = k := by omega
          have hsl := hpi.sl
          refine .uni (c := S.getD k' []) (getD_mem (by omega)) ((hpi.ss k' _).1 h3) (fun m hm hne => ?_)
          have hm' := (hpi.ss k' m).2 hm
          obtain ⟨t', ht', et⟩ := mem_getD (0 : Int) (h4 m hm' hne)
          rw [List.length_take] at ht'
          rw [getD_take (by omega)] at et
          rw [← et]
          refine ih t' (by omega) (by omega) ?_
          rw [et, Int.natAbs_neg]
          exact hall m hm' hne
      by_cases hl0 : z.lev.getD (z.p.tra.getD t 0).natAbs 0 = 0
      · rcases hpi.rs t htl with ⟨h1, -⟩ | ⟨k, h1, h2, h3, h4⟩
        · have := lvl_pos (hc.dec t htl h1)
          rw [hc.lv t htl] at hl0
          omega
        · refine step k h1 (fun m hm hne => .inr ?_)
          obtain ⟨t', ht', et⟩ := mem_getD (0 : Int) (h4 m hm hne)
          rw [List.length_take] at ht'
          rw [getD_take (by omega)] at et
          have e1 := hc.lv t' (by omega)
          rw [et, Int.natAbs_neg] at e1
          rw [hc.lv t htl] at hl0
          have := lvl_mono z.lim (s := t') (t := t) (by omega)
          omega
      · have hs := hst.resolve_right hl0
        by_cases htop : z.lev.getD (z.p.tra.getD t 0).natAbs 0 = top
        · have hb := topB_iff.2 ⟨hs, htop⟩
          by_cases hta2 : t = a
          · subst hta2
            exact .asm (by unfold neg; simp)
          · have hge : a ≤ t := by
              rcases Nat.lt_or_ge t a with hlt | hge
              · have h1 := h.op
                rw [h0] at h1
                have : 0 < (List.range a).countP (topB z top x.seen) := List.countP_pos_iff.2 ⟨t, List.mem_range.2 hlt, hb⟩
                omega
              · exact hge
            obtain ⟨k, e1, e2, e3⟩ := h.pr t hge htl hta2 hb
            exact step k e1 (fun m hm hne => (e3 m hm).resolve_left hne)
        · obtain ⟨m, hm, em⟩ := h.rc _ hs htop
          have hmt := (h.rs m hm).2.1
          obtain ⟨t', ht', et⟩ := mem_getD (0 : Int) hmt
          have : t' = t := hpi.pos_inj ht' htl (by rw [et, Int.natAbs_neg, em])
          subst this
          rw [et]
          refine .asm ?_
          unfold neg
          exact List.mem_map.2 ⟨m, by simp [hm], rfl⟩
  have hsl := hpi.sl
  refine .inr ⟨S.getD F [], getD_mem (by omega), fun m hm => ?_⟩
  have hm' := (hpi.ss F m).2 hm
  obtain ⟨t, ht, et⟩ := mem_getD (0 : Int) (hFf m hm')
  rw [← et]
  refine key (t + 1) t (by omega) ht ?_
  rw [et, Int.natAbs_neg]
  exact hFs m hm'
end
end Go.Proofs.Ytjbdiobnlmhidaa
namespace Go.Proofs.Ytjbdiobnlmhidaa

/-- the false clause is covered by what was seen -/
def Cover (z : SS) (F : Nat) (x : XS) : Prop := ∀ m, m ∈ z.p.cls.getD F [] → x.seen.getD m.natAbs false = true ∨ z.lev.getD m.natAbs 0 = 0
/-- ahead of a visit of clause ci -/
def JB (z : SS) (F : Nat) (top : Int) (x : XS) (a ci : Nat) (pv : Int) : Prop :=
  ci < z.p.cls.length ∧ (∀ m, m ∈ z.p.cls.getD ci [] → m ≠ pv → (∃ t, t < a ∧ z.p.tra.getD t 0 = -m) ∧ z.lev.getD m.natAbs 0 ≤ top) ∧ JI z top x a a ∧
    ((a = z.p.tra.length ∧ ci = F ∧ pv = 0) ∨ (a < z.p.tra.length ∧ pv = z.p.tra.getD a 0 ∧ z.p.rea.getD (z.p.tra.getD a 0).natAbs 0 = ci ∧ Cover z F x ∧ x.opn ≠ 0))
/-- behind it: an open literal lies below a -/
def JA (z : SS) (F : Nat) (top : Int) (x : XS) (a : Nat) : Prop := JI z top x a z.p.tra.length ∧ Cover z F x ∧ x.opn ≠ 0
/-- the end -/
def JE (z : SS) (F : Nat) (top : Int) (x : XS) (a : Nat) : Prop := JI z top x a a ∧ a < z.p.tra.length ∧ topB z top x.seen a = true ∧ x.opn = 0 ∧ Cover z F x

section
variable {S : List (List Int)} {z : SS} {F : Nat} {top : Int} {x : XS} {a ci : Nat} {pv : Int}

theorem JI.opn_ne {e t : Nat} (h : JI z top x a e) (ht : t < a) (hb : topB z top x.seen t = true) : x.opn ≠ 0 := by
  have : 0 < (List.range a).countP (topB z top x.seen) := List.countP_pos_iff.2 ⟨t, List.mem_range.2 ht, hb⟩
  have := h.op
  omega

theorem JB.visit (hc : CI S z) (h : JB z F top x a ci pv) (hm : ∃ m, m ∈ z.p.cls.getD F [] ∧ z.lev.getD m.natAbs 0 = top) (ht : top ≠ 0) : JA z F top (visitC z.lev top pv (z.p.cls.getD ci []) x) a := by
  obtain ⟨hp, hpi, -⟩ := hc.pi
  obtain ⟨h1, h2, h3, h4⟩ := h
  obtain ⟨g1, g2, g3⟩ := h3.visit hc (z.p.cls.getD ci []) x h2
  rcases h4 with ⟨rfl, rfl, rfl⟩ | ⟨e1, e2, e3, e4, e5⟩
  · have hcov : Cover z ci (visitC z.lev top 0 (z.p.cls.getD ci []) x) := fun m hm => (g2 m hm).resolve_left (fun e => (hpi.wf.lit _ (getD_mem h1) m hm).1 e)
    obtain ⟨m, hm, hmt⟩ := hm
    have hne := (hpi.wf.lit _ (getD_mem h1) m hm).1
    obtain ⟨⟨t, ht1, ht2⟩, -⟩ := h2 m hm hne
    have hseen := (hcov m hm).resolve_right (fun e => ht (by rw [← hmt]; exact e))
    exact ⟨g1, hcov, g1.opn_ne ht1 (topB_iff.2 ⟨by rw [ht2, Int.natAbs_neg]; exact hseen, by rw [ht2, Int.natAbs_neg]; exact hmt⟩)⟩
  · obtain ⟨-, t, ht1, ht2⟩ := h3.more e5
    obtain ⟨b1, b2⟩ := topB_iff.1 ht2
    exact ⟨g1.resolve e3 h1 (fun m hm => by have := g2 m hm; rw [e2] at this ⊢; exact this), fun m hm => (e4 m hm).imp_left (fun h => g3 _ h), g1.opn_ne ht1 (topB_iff.2 ⟨g3 _ b1, b2⟩)⟩

theorem JA.pos (h : JA z F top x a) : 0 < a := (h.1.more h.2.2).1
theorem JA.skip (h : JA z F top x (a + 1)) (hn : topB z top x.seen a = false) : JA z F top x a := ⟨h.1.skip hn, h.2⟩
theorem JA.found (hc : CI S z) (h : JA z F top x (a + 1)) (hn : topB z top x.seen a = true) :
    a < z.p.tra.length ∧ (x.opn - 1 = 0 → JE z F top { x with opn := x.opn - 1 } a) ∧ (x.opn - 1 ≠ 0 → ∃ ci : Nat, z.p.rea.getD (z.p.tra.getD a 0).natAbs 0 = ci ∧ JB z F top { x with opn := x.opn - 1 } a ci (z.p.tra.getD a 0)) := by
  have hf := h.1.found hn
  have hal := h.1.al
  refine ⟨by omega, fun h0 => ⟨hf, by omega, hn, h0, h.2.1⟩, fun h0 => ?_⟩
  obtain ⟨-, t, ht1, ht2⟩ := hf.more h0
  obtain ⟨-, b2⟩ := topB_iff.1 ht2
  obtain ⟨-, c2⟩ := topB_iff.1 hn
  obtain ⟨k, e1, e2, -, e4⟩ := hc.reason (a := a) (s := t) (by omega) ht1 (by rw [b2, c2])
  exact ⟨k, e1, e2, fun m hm hne => by have := e4 m hm hne; rw [c2] at this; exact this, hf, .inr ⟨by omega, rfl, e1, h.2.1, h0⟩⟩

theorem JB.bounds (hc : CI S z) (h : JB z F top x a ci pv) : (0 ≤ x.opn ∧ x.opn ≤ 1000000000) ∧ x.rest.length ≤ 1000000000 := by
  obtain ⟨hp, hpi, -⟩ := hc.pi
  have h1 := h.2.2.1.opn0
  have h2 := h.2.2.1.restlen hc
  have h3 := h.2.2.1.al
  have h4 := hpi.tlen
  have h5 := hpi.wf.nmax
  omega

/-- a conflict in which nothing was decided -/
theorem CI.zero (hc : CI S z) (hF : F < z.p.cls.length) (hFf : ∀ m, m ∈ z.p.cls.getD F [] → -m ∈ z.p.tra) (h0 : ∀ m, m ∈ z.p.cls.getD F [] → z.lev.getD m.natAbs 0 = 0) : Conf S [] := by
  obtain ⟨hp, hpi, -⟩ := hc.pi
  have key : ∀ N t, t < N → t < z.p.tra.length → z.lev.getD (z.p.tra.getD t 0).natAbs 0 = 0 → Der S [] (z.p.tra.getD t 0) := by
    intro N
    induction N with
    | zero => intro t h; omega
    | succ N ih =>
      intro t ht htl hl0
      rcases hpi.rs t htl with ⟨h1, -⟩ | ⟨k, h1, h2, h3, h4⟩
      · have := lvl_pos (hc.dec t htl h1)
        rw [hc.lv t htl] at hl0
        omega
      · have hsl := hpi.sl
        refine .uni (c := S.getD k []) (getD_mem (by omega)) ((hpi.ss k _).1 h3) (fun m hm hne => ?_)
        have hm' := (hpi.ss k m).2 hm
        obtain ⟨t', ht', et⟩ := mem_getD (0 : Int) (h4 m hm' hne)
        rw [List.length_take] at ht'
        rw [getD_take (by omega)] at et
        rw [← et]
        refine ih t' (by omega) (by omega) ?_
        rw [hc.lv t' (by omega)]
        rw [hc.lv t htl] at hl0
        have := lvl_mono z.lim (s := t') (t := t) (by omega)
        omega
  have hsl := hpi.sl
  refine .inr ⟨S.getD F [], getD_mem (by omega), fun m hm => ?_⟩
  have hm' := (hpi.ss F m).2 hm
  obtain ⟨t, ht, et⟩ := mem_getD (0 : Int) (hFf m hm')
  rw [← et]
  refine key (t + 1) t (by omega) ht ?_
  rw [et, Int.natAbs_neg]
  exact h0 m hm'
end

def maxL (lev : List Int) (c : List Int) (x : Int) : Int := c.foldl (fun t l => max t (lev.getD l.natAbs 0)) x
theorem maxL_spec (lev : List Int) : ∀ (c : List Int) (x : Int), x ≤ maxL lev c x ∧ (∀ m, m ∈ c → lev.getD m.natAbs 0 ≤ maxL lev c x) ∧ (maxL lev c x = x ∨ ∃ m, m ∈ c ∧ lev.getD m.natAbs 0 = maxL lev c x) := by
  intro c
  induction c with
  | nil => intro x; exact ⟨Int.le_refl _, (fun m hm => by cases hm), .inl rfl⟩
  | cons l r ih =>
    intro x
    show _ ≤ maxL lev r (max x (lev.getD l.natAbs 0)) ∧ (∀ m, m ∈ l :: r → _ ≤ maxL lev r (max x (lev.getD l.natAbs 0))) ∧ (maxL lev r (max x (lev.getD l.natAbs 0)) = x ∨ ∃ m, m ∈ l :: r ∧ _ = maxL lev r (max x (lev.getD l.natAbs 0)))
    obtain ⟨h1, h2, h3⟩ := ih (max x (lev.getD l.natAbs 0))
    refine ⟨by omega, fun m hm => ?_, ?_⟩
    · rcases List.mem_cons.1 hm with rfl | hm
      · omega
      · exact h2 m hm
    · rcases h3 with h3 | ⟨m, hm, h3⟩
      · by_cases hx : x < lev.getD l.natAbs 0
        · exact .inr ⟨l, by simp, by omega⟩
        · exact .inl (by omega)
      · exact .inr ⟨m, by simp [hm], h3⟩
theorem maxL_step {lev c : List Int} {x : Int} {j : Nat} (h : j < c.length) : maxL lev (c.take (j + 1)) x = max (maxL lev (c.take j) x) (lev.getD (c.getD j 0).natAbs 0) := by
  rw [← take_oneI h]
  unfold maxL
  rw [List.foldl_append]; rfl

/-- what the analysis leaves: the clause that is learned -/
def Learnt (z : SS) (F : Nat) (c : List Int) : Prop :=
  (c = [] ∧ ∀ m, m ∈ z.p.cls.getD F [] → z.lev.getD m.natAbs 0 = 0) ∨ ∃ top x a, JE z F top x a ∧ top ≠ 0 ∧ c = -(z.p.tra.getD a 0) :: x.rest
end Go.Proofs.Ytjbdiobnlmhidaa
