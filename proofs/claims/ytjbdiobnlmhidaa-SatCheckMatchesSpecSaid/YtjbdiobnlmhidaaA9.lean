/- Proved here: the first methods of the solver do what the plain solver does. Conditions: those that each theorem states. -/
import Derived.Test.YtjbdiobnlmhidaaA8
set_option linter.unusedVariables false
set_option linter.unusedSimpArgs false
namespace Go.Proofs.Ytjbdiobnlmhidaa
open Go Go.RowKit

/-- the state of a solver -/
structure SS where
  p : PS
  lrn : List (List Int)
  lim : List Nat
  lev : List Int

/-- the values in a solver's own fields -/
structure SV where
  lrn : Value
  lim : Value
  lev : Value
  act : Value
  step : Int
  pha : Value
  lrow : List Value

def nats (l : List Nat) : List Int := l.map (fun (x : Nat) => (x : Int))
@[simp] theorem nats_length (l : List Nat) : (nats l).length = l.length := by simp [nats]
theorem nats_get (l : List Nat) (i : Nat) : (nats l).getD i 0 = ((l.getD i 0 : Nat) : Int) := by
  simp only [nats, List.getD_eq_getElem?_getD, List.getElem?_map]
  cases l[i]? <;> rfl
theorem nats_app (l m : List Nat) : nats (l ++ m) = nats l ++ nats m := by simp [nats]
theorem nats_take (l : List Nat) (n : Nat) : nats (l.take n) = (nats l).take n := by simp [nats, List.map_take]
def u64s (l : List Int) : List Value := l.map (Value.int .u64)
@[simp] theorem u64s_length (l : List Int) : (u64s l).length = l.length := by simp [u64s]
theorem u64s_get {l : List Int} {i : Nat} (h : i < l.length) : (u64s l)[i]? = some (.int .u64 (l.getD i 0)) := by simp [u64s, h]
theorem u64s_set (l : List Int) (i : Nat) (x : Int) : (u64s l).set i (.int .u64 x) = u64s (l.set i x) := by simp [u64s, List.map_set]

def sext (s : SV) : List Value := [s.lrn, s.lim, s.lev, s.act, .int .u64 s.step, s.pha]

abbrev SRole : Role → Prop := fun r => r.1 < 20

def okU (l : List Int) : Prop := ∀ x, x ∈ l → 0 ≤ x ∧ x ≤ 18446744073709551615
def okI (l : List Int) : Prop := ∀ x, x ∈ l → -1 ≤ x ∧ x ≤ 1

structure SX (R : Roles) (w : World) (s : SV) (z : SS) : Prop where
  lrn : OwnS R w (10, 0) 23 s.lrn s.lrow
  llen : s.lrow.length = z.lrn.length
  lrow : ∀ i, i < z.lrn.length → OwnS R w (11, i) 3 (s.lrow.getD i undef) (ints (z.lrn.getD i []))
  lim : OwnS R w (12, 0) 3 s.lim (ints (nats z.lim))
  lev : OwnS R w (13, 0) 3 s.lev (ints z.lev)
  act : ∃ al, OwnS R w (14, 0) 70 s.act (u64s al) ∧ (al.length : Int) = z.p.n + 1 ∧ okU al
  stp : 0 ≤ s.step ∧ s.step ≤ 18446744073709551615
  pha : ∃ pl, OwnS R w (15, 0) 79 s.pha (i8s pl) ∧ (pl.length : Int) = z.p.n + 1 ∧ okI pl

theorem SX.chg {S : Role → Prop} {R R' : Roles} {w w' : World} {s : SV} {z : SS} (h : SX R w s z) (k : Chg S R w R' w') (hS : ∀ i j, 10 ≤ i → i < 16 → ¬ S (i, j)) : SX R' w' s z where
  lrn := h.lrn.chg k (hS _ _ (by omega) (by omega))
  llen := h.llen
  lrow i hi := (h.lrow i hi).chg k (hS _ _ (by omega) (by omega))
  lim := h.lim.chg k (hS _ _ (by omega) (by omega))
  lev := h.lev.chg k (hS _ _ (by omega) (by omega))
  act := by obtain ⟨al, h1, h2⟩ := h.act; exact ⟨al, h1.chg k (hS _ _ (by omega) (by omega)), h2⟩
  stp := h.stp
  pha := by obtain ⟨al, h1, h2⟩ := h.pha; exact ⟨al, h1.chg k (hS _ _ (by omega) (by omega)), h2⟩

theorem SX.congr {R : Roles} {w : World} {s : SV} {z z' : SS} (h : SX R w s z) (h1 : z'.lrn = z.lrn) (h2 : z'.lim = z.lim) (h3 : z'.lev = z.lev) (h4 : z'.p.n = z.p.n) : SX R w s z' :=
  ⟨h.lrn, by rw [h1]; exact h.llen, by rw [h1]; exact h.lrow, by rw [h2]; exact h.lim, by rw [h3]; exact h.lev, by rw [h4]; exact h.act, h.stp, by rw [h4]; exact h.pha⟩

/-- block g is a solver in state z -/
def SRep (R : Roles) (w : World) (g : Nat) (u : PV) (s : SV) (z : SS) : Prop := Rep R w g 72 (sext s) u z.p ∧ SX R w s z

theorem SRep.chg {S : Role → Prop} {R R' : Roles} {w w' : World} {g : Nat} {u : PV} {s : SV} {z : SS} (h : SRep R w g u s z) (k : Chg S R w R' w') (hS : ∀ i j, i < 16 → ¬ S (i, j)) (hd : Dom R' w') : SRep R' w' g u s z :=
  ⟨h.1.chg k (fun i j hi => hS i j (by omega)) hd, h.2.chg k (fun i j _ hi => hS i j hi)⟩
theorem SRep.drew {R : Roles} {w : World} {g : Nat} {u : PV} {s : SV} {z : SS} (h : SRep R w g u s z) : SRep R w.drew g u s z :=
  h.chg (Chg.refl (fun _ => False) _ _ h.1.dom).drew (fun _ _ _ h => h) h.1.dom
theorem SRep.alloc {R : Roles} {w : World} {g : Nat} {u : PV} {s : SV} {z : SS} (h : SRep R w g u s z) (o : Obj) : SRep R (w.alloc o) g u s z :=
  h.chg (Chg.alloc (fun _ => False) _ h.1.dom o) (fun _ _ _ h => h) (h.1.dom.alloc o)

def SPost (R : Roles) (w : World) (g : Nat) (z : SS) (v : Value) (e : Ending) (w' : World) : Prop :=
  e = .returned v ∧ ∃ R' u' s', SRep R' w' g u' s' z ∧ Chg SRole R w R' w'

/-- a method of the propagator, called on a solver -/
theorem SRep.lift {R R' : Roles} {w w' : World} {g : Nat} {u u' : PV} {s : SV} {z : SS} {p' : PS} (h : SRep R w g u s z) (r : Rep R' w' g 72 (sext s) u' p') (k : Chg PRole R w R' w') (hn : p'.n = z.p.n) :
    SRep R' w' g u' s { z with p := p' } ∧ Chg SRole R w R' w' :=
  ⟨⟨r, (h.2.chg k (fun i j h1 h2 e => by have : i < 9 := e; omega)).congr rfl rfl rfl hn⟩, k.mono (fun r h => by have : r.1 < 9 := h; show r.1 < 20; omega)⟩

/-- the cells of a solver's own fields -/
theorem SRep.cells {R : Roles} {w : World} {g : Nat} {u : PV} {s : SV} {z : SS} (h : SRep R w g u s z) :
    w.cell? ⟨g, 10, none⟩ = some s.lrn ∧ w.cell? ⟨g, 11, none⟩ = some s.lim ∧ w.cell? ⟨g, 12, none⟩ = some s.lev ∧ w.cell? ⟨g, 13, none⟩ = some s.act ∧ w.cell? ⟨g, 14, none⟩ = some (.int .u64 s.step) ∧ w.cell? ⟨g, 15, none⟩ = some s.pha := by
  have hc := fun j => cell_of_row w g j _ 72 (0, 0) h.1.hg
  refine ⟨?_, ?_, ?_, ?_, ?_, ?_⟩ <;> rw [hc] <;> rfl

/-- a store into one of a solver's own fields -/
theorem putExt {R : Roles} {w : World} {g : Nat} {u : PV} {s s' : SV} {p : PS} (h : Rep R w g 72 (sext s) u p) (k : Nat) (x : Value) (hc : (sext s).set k x = sext s') : Rep R (w.setCell ⟨g, 10 + k, none⟩ x) g 72 (sext s') u p :=
  h.putG (10 + k) x u p (sext s') (by unfold pcells; rw [Nat.add_comm]; show _ :: _ = _; simp only [List.set_cons_succ]; rw [hc]) ⟨h.cls, h.uni, h.wat, h.val, h.rea, h.tra⟩ h.clen h.crow rfl rfl

theorem SX.cellG {R : Roles} {w : World} {g T : Nat} {ext : List Value} {u : PV} {p : PS} {s : SV} {z : SS} (h : SX R w s z) (r : Rep R w g T ext u p) (i : Nat) (x : Value) : SX R (w.setCell ⟨g, i, none⟩ x) s z :=
  h.chg (Chg.setCell w r.dom r.rg i none x) (fun i j h1 h2 e => by cases e; omega)

section
variable {R R1 : Roles} {w w1 : World} {g : Nat} {u : PV} {s : SV} {z : SS}

theorem SRep.setLim (h : SRep R w g u s z) (k : Chg (· = (12, 0)) R w R1 w1) (hd : Dom R1 w1) {v : Value} {l : List Nat} (ho : OwnS R1 w1 (12, 0) 3 v (ints (nats l))) :
    SRep R1 (w1.setCell ⟨g, 11, none⟩ v) g u { s with lim := v } { z with lim := l } ∧ Chg SRole R w R1 (w1.setCell ⟨g, 11, none⟩ v) := by
  have r := h.1.chg k (fun i j hi e => by cases e; omega) hd
  have kc := Chg.setCell w1 hd r.rg 11 none v
  have hne : ∀ i j : Nat, i ≠ 12 → ¬ ((i, j) : Role) = (12, 0) := fun i j hi e => by cases e; omega
  have hn0 : ∀ i j : Nat, 0 < i → ¬ ((i, j) : Role) = (0, 0) := fun i j hi e => by cases e; omega
  refine ⟨⟨putExt r 1 v rfl, ?_⟩, (k.mono (by rintro r rfl; simp)).trans (kc.mono (by rintro r rfl; simp))⟩
  obtain ⟨al, a1, a2⟩ := h.2.act
  obtain ⟨pl, p1, p2⟩ := h.2.pha
  exact ⟨(h.2.lrn.chg k (hne _ _ (by omega))).chg kc (hn0 _ _ (by omega)), h.2.llen, fun i hi => ((h.2.lrow i hi).chg k (hne _ _ (by omega))).chg kc (hn0 _ _ (by omega)), ho.chg kc (hn0 _ _ (by omega)),
    (h.2.lev.chg k (hne _ _ (by omega))).chg kc (hn0 _ _ (by omega)), ⟨al, (a1.chg k (hne _ _ (by omega))).chg kc (hn0 _ _ (by omega)), a2⟩, h.2.stp, ⟨pl, (p1.chg k (hne _ _ (by omega))).chg kc (hn0 _ _ (by omega)), p2⟩⟩

theorem SRep.atLev (h : SRep R w g u s z) {i : Nat} (hi : i < z.lev.length) :
    ∃ b c, w.cell? ⟨g, 12, none⟩ = some (.slice (some ⟨b, 0, none⟩) z.lev.length c) ∧ w.cell? ⟨b, i, none⟩ = some (.int .i64 (z.lev.getD i 0)) ∧ w.frozen? ⟨b, i, none⟩ = false ∧
      ∀ x, SRep R (w.setCell ⟨b, i, none⟩ (.int .i64 x)) g u s { z with lev := z.lev.set i x } ∧ Chg SRole R w R (w.setCell ⟨b, i, none⟩ (.int .i64 x)) := by
  obtain ⟨b, c, hb, h1, h2, hR, -, hcell, hfz⟩ := h.2.lev.cell (i := i) (by simpa using hi)
  rw [ints_length] at hb
  refine ⟨b, c, by rw [← hb]; exact h.cells.2.2.1, by rw [hcell, ints_get hi], hfz, fun x => ?_⟩
  have kc := Chg.setCell w h.1.dom hR i none (.int .i64 x)
  have hne : ∀ i j : Nat, i ≠ 13 → ¬ ((i, j) : Role) = (13, 0) := fun i j hi e => by cases e; omega
  have hlv := h.2.lev
  rw [hb] at hlv
  have hs := hlv.set (i := i) (by simpa using hi) (.int .i64 x)
  rw [ints_set] at hs
  obtain ⟨al, a1, a2⟩ := h.2.act
  obtain ⟨pl, p1, p2⟩ := h.2.pha
  exact ⟨⟨h.1.chg kc (fun i j hi e => by cases e; omega) (h.1.dom.setCell _ _), h.2.lrn.chg kc (hne _ _ (by omega)), h.2.llen, fun i hi => (h.2.lrow i hi).chg kc (hne _ _ (by omega)), h.2.lim.chg kc (hne _ _ (by omega)), by rw [hb]; exact hs,
    ⟨al, a1.chg kc (hne _ _ (by omega)), a2⟩, h.2.stp, ⟨pl, p1.chg kc (hne _ _ (by omega)), p2⟩⟩, kc.mono (by rintro r rfl; simp)⟩

theorem SRep.atLim (h : SRep R w g u s z) {i : Nat} (hi : i < z.lim.length) :
    ∃ b c, w.cell? ⟨g, 11, none⟩ = some (.slice (some ⟨b, 0, none⟩) z.lim.length c) ∧ w.cell? ⟨b, i, none⟩ = some (.int .i64 ((z.lim.getD i 0 : Nat) : Int)) := by
  obtain ⟨b, c, hb, h1, h2, hR, -, hcell, hfz⟩ := h.2.lim.cell (i := i) (by simpa using hi)
  rw [ints_length, nats_length] at hb
  exact ⟨b, c, by rw [← hb]; exact h.cells.2.1, by rw [hcell, ints_get (by simpa using hi), nats_get]⟩
theorem SRep.limForm (h : SRep R w g u s z) : ∃ a c, w.cell? ⟨g, 11, none⟩ = some (.slice a z.lim.length c) ∧ s.lim = .slice a z.lim.length c ∧ z.lim.length ≤ c ∧ c ≤ 9223372036854775807 := by
  obtain ⟨a, c, e, h1, h2, -⟩ := h.2.lim.form
  rw [ints_length, nats_length] at e h1
  unfold maxLen at h2
  exact ⟨a, c, by rw [← e]; exact h.cells.2.1, e, h1, by omega⟩

theorem SRep.atPha (h : SRep R w g u s z) {i : Nat} (hi : (i : Int) ≤ z.p.n) :
    ∃ b m c y, w.cell? ⟨g, 15, none⟩ = some (.slice (some ⟨b, 0, none⟩) m c) ∧ w.cell? ⟨b, i, none⟩ = some (.int .i8 y) ∧ w.frozen? ⟨b, i, none⟩ = false ∧ i < m ∧ (m : Int) = z.p.n + 1 ∧ -1 ≤ y ∧ y ≤ 1 ∧
      ∀ x, -1 ≤ x → x ≤ 1 → SRep R (w.setCell ⟨b, i, none⟩ (.int .i8 x)) g u s z ∧ Chg SRole R w R (w.setCell ⟨b, i, none⟩ (.int .i8 x)) := by
  obtain ⟨pl, p1, p2, p3⟩ := h.2.pha
  have hi' : i < pl.length := by omega
  obtain ⟨b, c, hb, h1, h2, hR, -, hcell, hfz⟩ := p1.cell (i := i) (by simpa using hi')
  rw [i8s_length] at hb
  have hy := p3 _ (getD_mem (d := 0) hi')
  refine ⟨b, pl.length, c, pl.getD i 0, by rw [← hb]; exact h.cells.2.2.2.2.2, by rw [hcell, i8s_get hi'], hfz, hi', p2, hy.1, hy.2, fun x hx1 hx2 => ?_⟩
  have kc := Chg.setCell w h.1.dom hR i none (.int .i8 x)
  have hne : ∀ i j : Nat, i ≠ 15 → ¬ ((i, j) : Role) = (15, 0) := fun i j hi e => by cases e; omega
  rw [hb] at p1
  have hs := p1.set (i := i) (by simpa using hi') (.int .i8 x)
  rw [i8s_set] at hs
  obtain ⟨al, a1, a2⟩ := h.2.act
  exact ⟨⟨h.1.chg kc (fun i j hi e => by cases e; omega) (h.1.dom.setCell _ _), h.2.lrn.chg kc (hne _ _ (by omega)), h.2.llen, fun i hi => (h.2.lrow i hi).chg kc (hne _ _ (by omega)), h.2.lim.chg kc (hne _ _ (by omega)), h.2.lev.chg kc (hne _ _ (by omega)),
    ⟨al, a1.chg kc (hne _ _ (by omega)), a2⟩, h.2.stp, ⟨pl.set i x, by rw [hb]; exact hs, by rw [List.length_set]; exact p2, fun y hy => by
      rcases mem_set hy with h | rfl
      · exact p3 _ h
      · exact ⟨hx1, hx2⟩⟩⟩, kc.mono (by rintro r rfl; simp)⟩

theorem SRep.atAct (h : SRep R w g u s z) {i : Nat} (hi : (i : Int) ≤ z.p.n) :
    ∃ b m c y, w.cell? ⟨g, 13, none⟩ = some (.slice (some ⟨b, 0, none⟩) m c) ∧ w.cell? ⟨b, i, none⟩ = some (.int .u64 y) ∧ w.frozen? ⟨b, i, none⟩ = false ∧ i < m ∧ (m : Int) = z.p.n + 1 ∧ 0 ≤ y ∧ y ≤ 18446744073709551615 ∧ Hid (s.act = .slice (some ⟨b, 0, none⟩) m c) ∧
      ∀ x, 0 ≤ x → x ≤ 18446744073709551615 → SRep R (w.setCell ⟨b, i, none⟩ (.int .u64 x)) g u s z ∧ Chg SRole R w R (w.setCell ⟨b, i, none⟩ (.int .u64 x)) := by
  obtain ⟨pl, p1, p2, p3⟩ := h.2.act
  have hi' : i < pl.length := by omega
  obtain ⟨b, c, hb, h1, h2, hR, -, hcell, hfz⟩ := p1.cell (i := i) (by simpa using hi')
  rw [u64s_length] at hb
  have hy := p3 _ (getD_mem (d := 0) hi')
  refine ⟨b, pl.length, c, pl.getD i 0, by rw [← hb]; exact h.cells.2.2.2.1, by rw [hcell, u64s_get hi'], hfz, hi', p2, hy.1, hy.2, hb, fun x hx1 hx2 => ?_⟩
  have kc := Chg.setCell w h.1.dom hR i none (.int .u64 x)
  have hne : ∀ i j : Nat, i ≠ 14 → ¬ ((i, j) : Role) = (14, 0) := fun i j hi e => by cases e; omega
  rw [hb] at p1
  have hs := p1.set (i := i) (by simpa using hi') (.int .u64 x)
  rw [u64s_set] at hs
  obtain ⟨al, a1, a2⟩ := h.2.pha
  exact ⟨⟨h.1.chg kc (fun i j hi e => by cases e; omega) (h.1.dom.setCell _ _), h.2.lrn.chg kc (hne _ _ (by omega)), h.2.llen, fun i hi => (h.2.lrow i hi).chg kc (hne _ _ (by omega)), h.2.lim.chg kc (hne _ _ (by omega)), h.2.lev.chg kc (hne _ _ (by omega)),
    ⟨pl.set i x, by rw [hb]; exact hs, by rw [List.length_set]; exact p2, fun y hy => by
      rcases mem_set hy with h | rfl
      · exact p3 _ h
      · exact ⟨hx1, hx2⟩⟩, h.2.stp, ⟨al, a1.chg kc (hne _ _ (by omega)), a2⟩⟩, kc.mono (by rintro r rfl; simp)⟩

theorem SRep.setStep (h : SRep R w g u s z) {x : Int} (h0 : 0 ≤ x) (h1 : x ≤ 18446744073709551615) : SRep R (w.setCell ⟨g, 14, none⟩ (.int .u64 x)) g u { s with step := x } z ∧ Chg SRole R w R (w.setCell ⟨g, 14, none⟩ (.int .u64 x)) := by
  have r := h.2.cellG h.1 14 (.int .u64 x)
  exact ⟨⟨putExt h.1 4 (.int .u64 x) rfl, r.lrn, r.llen, r.lrow, r.lim, r.lev, r.act, ⟨h0, h1⟩, r.pha⟩, (Chg.setCell w h.1.dom h.1.rg 14 none _).mono (by rintro r rfl; simp)⟩

/-- a change of the propagator's part -/
theorem SRep.part (h : SRep R w g u s z) {u' : PV} {p' : PS} {S : Role → Prop} (r : Rep R1 w1 g 72 (sext s) u' p') (k : Chg S R w R1 w1) (hS : ∀ r, S r → r.1 < 9) (hn : p'.n = z.p.n) : SRep R1 w1 g u' s { z with p := p' } ∧ Chg SRole R w R1 w1 :=
  h.lift r (k.mono hS) hn
end
end Go.Proofs.Ytjbdiobnlmhidaa
namespace Go.Proofs.Ytjbdiobnlmhidaa
open Go Go.RowKit

theorem u64_range (x : Int) : 0 ≤ IntKind.u64.wrap x ∧ IntKind.u64.wrap x ≤ 18446744073709551615 := by
  have h1 : IntKind.u64.wrap x = x % 18446744073709551616 := by simp [IntKind.wrap, IntKind.bits, IntKind.signed]
  rw [h1]
  omega

theorem shr_range (y : Int) (h0 : 0 ≤ y) (h1 : y ≤ 18446744073709551615) : 0 ≤ y / 1099511627776 ∧ y / 1099511627776 ≤ 18446744073709551615 := by omega

def BPost (R : Roles) (w : World) (g : Nat) (u : PV) (z : SS) (e : Ending) (w' : World) : Prop :=
  e = .returned (.tuple #[]) ∧ ∃ s', SRep R w' g u s' z ∧ Chg SRole R w R w'

set_option maxRecDepth 100000 in
set_option maxHeartbeats 8000000 in
theorem bump_calls {R : Roles} {w : World} {g : Nat} {u : PV} {s : SV} {z : SS} (h : SRep R w g u s z) {v : Nat} (hv : (v : Int) ≤ z.p.n) (hnm : z.p.n ≤ 100000000) :
    Calls Try.prog 76 #[.pointer (some ⟨g, 0, none⟩), .int .i64 v] w (BPost R w g u z) := by
  have HV := Lib.hid hv
  have HNM := Lib.hid hnm
  obtain ⟨b, m, c, y, h13, ycell, yf, hm1, hm2, hy0, hy1, HE, put⟩ := h.atAct hv
  have h14 := h.cells.2.2.2.2.1
  obtain ⟨hs0, hs1⟩ := h.2.stp
  have hw := u64_range (y + s.step)
  have HP := Lib.hid (put _ hw.1 hw.2)
  have HN := Lib.hid hm2
  have hmn : m ≤ 100000001 := by omega
  have HM := Lib.hid hm2
  clear put hw h hm2 hv hnm
  generalize s.step = st at *
  go_enter Try.func76, Try.ntmps76
  go_wp2_with fail
  go_still_tail 13, (by kernel_rfl)
  go_upto_region 1 with (fail)
  refine cutW (fun w1 => ∃ s1, SRep R w1 g u s1 z ∧ Chg SRole R w R w1) ⟨s, HP.out.1.drew, HP.out.2.drew⟩ ?_
  clear h13 ycell yf h14 HP HE hm1 hmn hy0 hy1 hs0 hs1
  rintro w1 ⟨s1, q1, k1⟩
  obtain ⟨b, m, c, y, h13, ycell, yf, hm1, hm2, hy0, hy1, HE, -⟩ := q1.atAct HV.out
  have HMM := Lib.hid hm2
  have hmn : m ≤ 100000001 := by have := HNM.out; omega
  have Q1 := Lib.hid (And.intro q1 k1)
  clear q1 k1 hm2 HE
  by_cases hbig : y > 1152921504606846976
  · go_wp2_with fail
    go_loopg [31] m (fun kq v31 w' => ∃ k : Nat, v31 = .int .i64 k ∧ k + kq = m ∧ Hid (SRep R w' g u s1 z ∧ Chg SRole R w R w'))
    case atStart => exact ⟨0, rfl, by omega, Q1⟩
    case round =>
      clear Q1 h13 ycell yf hy0 hy1 hbig
      obtain ⟨k, rfl, hk, Q2⟩ := hrel
      by_cases hlt : k < m
      · obtain ⟨b2, m2, c2, y2, h13, ycell, yf, hm4, hm5, hy0, hy1, -, put⟩ := Q2.out.1.atAct (i := k) (by have := HMM.out; omega)
        obtain rfl : m2 = m := by have := HMM.out; omega
        have hsr := shr_range y2 hy0 hy1
        have HP2 := Lib.hid (put _ hsr.1 hsr.2)
        clear put hm5 hsr
        go_wp2
        go_roundg (gk - 1)
        case measure => omega
        case rel => exact ⟨k + 1, by go_num, by omega, HP2.out.1, Q2.out.2.trans HP2.out.2⟩
      · obtain rfl : k = m := by omega
        have h14 := Q2.out.1.cells.2.2.2.2.1
        have f14 := Q2.out.1.1.free 14
        obtain ⟨hs0, hs1⟩ := Q2.out.1.2.stp
        have hsr := shr_range s1.step hs0 hs1
        have HST := Lib.hid (fun (x : Int) (h0 : 0 ≤ x) (h1 : x ≤ 18446744073709551615) => Q2.out.1.setStep h0 h1)
        go_wp2
        all_goals go_end0
        · exact ⟨rfl, _, (HST.out _ hsr.1 hsr.2).1, Q2.out.2.trans (HST.out _ hsr.1 hsr.2).2⟩
        · exact ⟨rfl, _, (HST.out 1 (by omega) (by omega)).1, Q2.out.2.trans (HST.out 1 (by omega) (by omega)).2⟩
  · go_wp2
    go_end0
    exact ⟨rfl, s1, Q1.out.1, Q1.out.2⟩

/-- the literal for the next decision: 0 if all variables have values -/
def NextPost (w : World) (p : PS) (e : Ending) (w' : World) : Prop :=
  ∃ l : Int, e = .returned (.int .i64 l) ∧ Below w.heap.size w w' ∧ ((l = 0 ∧ ∀ v : Nat, 1 ≤ v → (v : Int) ≤ p.n → p.val.getD v 0 ≠ 0) ∨ (Lit p.n l ∧ p.val.getD l.natAbs 0 = 0))

theorem SRep.below {R : Roles} {w w' : World} {g : Nat} {u : PV} {s : SV} {z : SS} (h : SRep R w g u s z) (hb : Below w.heap.size w w') : SRep R w' g u s z :=
  h.chg (Below.toChg h.1.dom hb (fun _ => False)) (fun _ _ _ h => h) (fun b r hr => Nat.lt_of_lt_of_le (h.1.dom b r hr) hb.size)

set_option maxRecDepth 100000 in
set_option maxHeartbeats 8000000 in
theorem next_calls {R : Roles} {w : World} {g : Nat} {u : PV} {s : SV} {z : SS} (h : SRep R w g u s z) (hnm : z.p.n ≤ 100000000) (hn0 : 0 ≤ z.p.n) (hvl : (z.p.val.length : Int) = z.p.n + 1) :
    Calls Try.prog 64 #[.pointer (some ⟨g, 0, none⟩)] w (NextPost w z.p) := by
  obtain ⟨n, hn⟩ : ∃ n : Nat, z.p.n = n := ⟨z.p.n.toNat, by omega⟩
  have H := Lib.hid h
  have HN := Lib.hid hn
  have h3 := h.1.cells.2.2.2.1
  rw [hn] at h3 hnm hvl
  have hvl2 : z.p.val.length = n + 1 := by omega
  have HV := Lib.hid hvl2
  clear h hn hn0 hvl hvl2
  go_enter Try.func64, Try.ntmps64
  go_wp2_with fail
  go_loopg [3, 4] (n + 1) (fun kq v3 v4 w' => ∃ (b v : Nat), v3 = .int .i64 b ∧ v4 = .int .i64 v ∧ v + kq = n + 2 ∧ 1 ≤ v ∧ v ≤ n + 1 ∧ b < n + 1 ∧ Hid (SRep R w' g u s z ∧ Below w.heap.size w w') ∧ Hid ((b = 0 ∧ ∀ x : Nat, 1 ≤ x → x < v → z.p.val.getD x 0 ≠ 0) ∨ (1 ≤ b ∧ z.p.val.getD b 0 = 0)))
  case atStart => exact ⟨0, 1, rfl, rfl, by omega, by omega, by omega, by omega, ⟨H.out, Below.refl _ _⟩, .inl ⟨rfl, fun x h1 h2 => by omega⟩⟩
  case round =>
    clear H h3
    obtain ⟨b, v, rfl, rfl, hv, hv1, hv2, hb, H, HB⟩ := hrel
    have h3 := H.out.1.1.cells.2.2.2.1
    rw [HN.out] at h3
    by_cases hlt : v < n + 1
    · obtain ⟨vb, vc, h4, vcell, -, -, -⟩ := H.out.1.1.atVal (i := v) (by rw [HV.out]; exact hlt)
      rw [HV.out] at h4
      obtain ⟨ab, am, ac, ay, h13, acell, -, am1, am2, ay0, ay1, AE, -⟩ := H.out.1.atAct (i := v) (by rw [HN.out]; omega)
      obtain ⟨ab2, am3, ac2, by_, h13', bcell, -, -, -, by0, by1, AE2, -⟩ := H.out.1.atAct (i := b) (by rw [HN.out]; omega)
      rw [HN.out] at am2
      have e := AE.out.symm.trans AE2.out
      simp only [Value.slice.injEq, Option.some.injEq, Addr.mk.injEq, and_true] at e
      obtain ⟨rfl, rfl, rfl⟩ := e
      obtain rfl : am = n + 1 := by omega
      have hvn : (v : Int) ≤ (n : Int) := by omega
      have hv1' : IntKind.i64.wrap ((v : Int) + 1) = ((v + 1 : Nat) : Int) := by rw [IntWalk.i64_in _ (by omega)]; omega
      clear h13' AE AE2 am1 am2
      have HVV : Hid (∀ y, y = z.p.val.getD v 0 → (y = 0 → (1 ≤ v ∧ z.p.val.getD v 0 = 0)) ∧ (y ≠ 0 → ((b = 0 ∧ ∀ x : Nat, 1 ≤ x → x < v + 1 → z.p.val.getD x 0 ≠ 0) ∨ (1 ≤ b ∧ z.p.val.getD b 0 = 0)))) := fun y hy => ⟨fun e => ⟨hv1, by rw [← hy]; exact e⟩, fun hne => by
        rcases HB.out with ⟨e1, e2⟩ | h
        · refine .inl ⟨e1, fun x h1 h2 => ?_⟩
          by_cases e : x = v
          · rw [e, ← hy]; exact hne
          · exact e2 x h1 (by omega)
        · exact .inr h⟩
      have HVE := Lib.hid (rfl : z.p.val.getD v 0 = z.p.val.getD v 0)
      have HKEEP : Hid (∀ w', Below wr.heap.size wr w' → SRep R w' g u s z ∧ Below w.heap.size w w') := fun w' hb => ⟨H.out.1.below hb, H.out.2.trans (hb.mono H.out.2.size)⟩
      generalize hy : z.p.val.getD v 0 = y at *
      have HY := Lib.hid hy
      clear hy
      by_cases hy0 : y = 0
      · have bq : (y == 0) = true := by simp [hy0]
        have HB1 := Lib.hid ((HVV.out y rfl).1 hy0)
        clear HVV hy0
        by_cases hb0 : b = 0
        · subst hb0
          go_wp2_with fail
          go_quiet (fail)
          go_wp2
          go_roundg (gk - 1)
          case measure => omega
          case rel => exact ⟨v, v + 1, rfl, by go_num, by omega, by omega, by omega, by omega, HKEEP.out _ ⟨rfl, rfl, rfl, Nat.le_refl _, fun _ _ => rfl⟩, by rw [HY.out]; exact .inr HB1.out⟩
        · have bb : ((b : Int) == 0) = false := by simp [hb0]
          by_cases hay : ay > by_
          · go_wp2_with fail
            go_quiet (fail)
            go_wp2
            go_roundg (gk - 1)
            case measure => omega
            case rel => exact ⟨v, v + 1, rfl, by go_num, by omega, by omega, by omega, by omega, HKEEP.out _ ⟨rfl, rfl, rfl, Nat.le_refl _, fun _ _ => rfl⟩, by rw [HY.out]; exact .inr HB1.out⟩
          · have HBB : Hid ((b = 0 ∧ ∀ x : Nat, 1 ≤ x → x < v + 1 → z.p.val.getD x 0 ≠ 0) ∨ (1 ≤ b ∧ z.p.val.getD b 0 = 0)) := by
              rcases HB.out with ⟨e1, -⟩ | h
              · exact absurd e1 hb0
              · exact .inr h
            go_wp2_with fail
            go_quiet (fail)
            go_wp2
            go_roundg (gk - 1)
            case measure => omega
            case rel => exact ⟨b, v + 1, rfl, by go_num, by omega, by omega, by omega, by omega, HKEEP.out _ ⟨rfl, rfl, rfl, Nat.le_refl _, fun _ _ => rfl⟩, HBB⟩
      · have bq : (y == 0) = false := by simp [hy0]
        have HBB := Lib.hid ((HVV.out y rfl).2 hy0)
        clear HVV
        go_wp2_with fail
        go_quiet (fail)
        go_wp2
        go_roundg (gk - 1)
        case measure => omega
        case rel => exact ⟨b, v + 1, rfl, by go_num, by omega, by omega, by omega, by omega, HKEEP.out _ ⟨rfl, rfl, rfl, Nat.le_refl _, fun _ _ => rfl⟩, HBB⟩
    · obtain rfl : v = n + 1 := by omega
      obtain ⟨pb, pm, pc, py, h15, pcell, -, pm1, pm2, py0, py1, -⟩ := H.out.1.atPha (i := b) (by rw [HN.out]; omega)
      rw [HN.out] at pm2
      obtain rfl : pm = n + 1 := by omega
      clear pm2 pm1
      have HF : Hid ((b = 0 ∧ ∀ x : Nat, 1 ≤ x → (x : Int) ≤ z.p.n → z.p.val.getD x 0 ≠ 0) ∨ (Lit z.p.n (b : Int) ∧ Lit z.p.n (-(b : Int)) ∧ z.p.val.getD b 0 = 0)) := by
        rcases HB.out with ⟨e1, e2⟩ | ⟨e1, e2⟩
        · exact .inl ⟨e1, fun x h1 h2 => e2 x h1 (by rw [HN.out] at h2; omega)⟩
        · exact .inr ⟨⟨by omega, by rw [HN.out]; omega⟩, ⟨by omega, by rw [HN.out]; omega⟩, e2⟩
      by_cases hp : py > 0
      · go_wp2
        go_ret
        refine ⟨b, rfl, H.out.2, ?_⟩
        rcases HF.out with ⟨e1, e2⟩ | ⟨e1, e2, e3⟩
        · exact .inl ⟨by omega, e2⟩
        · exact .inr ⟨e1, by simpa using e3⟩
      · go_wp2
        go_ret
        refine ⟨-(b : Int), rfl, H.out.2, ?_⟩
        rcases HF.out with ⟨e1, e2⟩ | ⟨e1, e2, e3⟩
        · exact .inl ⟨by omega, e2⟩
        · exact .inr ⟨e2, by simpa using e3⟩
end Go.Proofs.Ytjbdiobnlmhidaa
namespace Go.Proofs.Ytjbdiobnlmhidaa
open Go Go.RowKit

def SS.decide (z : SS) (l : Int) : SS :=
  if z.p.truth l = 0 then { z with lim := z.lim ++ [z.p.tra.length], p := z.p.set l (-1), lev := z.lev.set l.natAbs ((z.lim.length : Int) + 1) }
  else { z with lim := z.lim ++ [z.p.tra.length] }

set_option maxRecDepth 100000 in
set_option maxHeartbeats 8000000 in
theorem decide_calls {R : Roles} {w : World} {g : Nat} {u : PV} {s : SV} {z : SS} (h : SRep R w g u s z) (hwf : WF z.p) {l : Int} (hl : Lit z.p.n l) (hlev : (z.lev.length : Int) = z.p.n + 1) (hlim : z.lim.length ≤ 1000000000) (htra : z.p.tra.length < 1000000000) :
    Calls Try.prog 63 #[.pointer (some ⟨g, 0, none⟩), .int .i64 l] w (SPost R w g (z.decide l) (.tuple #[])) := by
  obtain ⟨la, lc, h11, hlf, hlc1, hlc2⟩ := h.limForm
  obtain ⟨ta, tc, htf, htc1, htc2, -⟩ := h.1.tra.form
  rw [ints_length] at htf htc1
  unfold maxLen at htc2
  have h6 := h.1.cells.2.2.2.2.2.2.1
  rw [htf] at h6
  have d11 : w.drew.cell? ⟨g, 11, none⟩ = some (.slice la z.lim.length lc) := h11
  have d6 : w.drew.cell? ⟨g, 6, none⟩ = some (.slice ta z.p.tra.length tc) := h6
  have hwr := h.drew.alloc (.cells #[Value.int .i64 (z.p.tra.length : Int)] 3)
  have x11 := hwr.cells.2.1
  rw [hlf] at x11
  have x6 := hwr.1.cells.2.2.2.2.2.2.1
  rw [htf] at x6
  have HLF := Lib.hid hlf
  have HW := Lib.hid hwf
  have HL := Lib.hid hl
  have HV := Lib.hid hlev
  have HNM := Lib.hid hwf.nmax
  have hla : (l.natAbs : Int) ≤ 100000000 := by have := hl.2; have := hwf.nmax; omega
  have HD0 := Lib.hid h.1.dom
  clear hlf htf h h11 h6 hwf hl hlev
  go_enter Try.func63, Try.ntmps63
  go_wp2_with fail
  refine wp_region_seq (fun w' => w'.cell? ⟨g, 11, none⟩ = some (.slice la z.lim.length lc) ∧ w'.cell? ⟨g, 6, none⟩ = some (.slice ta z.p.tra.length tc)) [15]
    [(0, 2), (1, 2), (2, 2), (3, 2), (4, 1), (5, 2), (6, 2), (7, 2), (8, 2), (9, 1), (10, 2), (11, 0), (12, 0), (13, 2), (14, 2), (15, 0)]
    (by kernel_rfl) (by kernel_rfl) (fun c a d v w h => by cases d <;> exact h) (by kernel_rfl) ⟨d11, d6⟩ ?_
  repeat
    first
      | refine wpSeqN_quiet (v := ?_) rfl (Or.inl ⟨rfl, ?_⟩) ?_
      | refine wpSeqN_pure (v := ?_) rfl (Or.inl ⟨rfl, ?_⟩) ?_
    rotate_left
    focus (intro w hSw; (try dsimp only at hSw); first | (go_simp; done) | (go_simp; with_reducible rfl))
    simp only [Act.put, List.setIfInBounds_toArray, List.set_cons_zero, List.set_cons_succ]
  refine wpSeqN_loud rfl (fun K hK => ?_)
  go_simp
  refine hK.out _ _ (fun _ => ⟨x11, x6⟩) ?_
  clear hK K
  try simp only [Act.put, List.setIfInBounds_toArray, List.set_cons_zero, List.set_cons_succ]
  refine wpSeqN_loud rfl (fun K hK => ?_)
  refine step_app Try.underlying23 info3 rfl rfl _ _ rfl _ _ rfl (HLF.out ▸ hwr.2.lim) hwr.1.dom _ 1 1 [.int .i64 z.p.tra.length] rfl rfl (cell_one_new _ _ _) (by simp [Value.oneCell']) (by omega) (by rw [ints_length, nats_length]; omega) ?_
  rintro a5 n5 c5 w5 R5 ho k5 hd5 hn5
  obtain ⟨g11, f11⟩ := hwr.1.gkept k5 (by simp) 11
  rw [x11] at g11
  obtain ⟨g6, -⟩ := hwr.1.gkept k5 (by simp) 6
  rw [x6] at g6
  refine hK.out _ _ (fun _ => ⟨g11, g6⟩) ?_
  clear hK K
  try simp only [Act.put, List.setIfInBounds_toArray, List.set_cons_zero, List.set_cons_succ]
  have hlim5 : ints (nats z.lim) ++ [Value.int .i64 (z.p.tra.length : Int)] = ints (nats (z.lim ++ [z.p.tra.length])) := by
    rw [nats_app, ← ints_append]; rfl
  rw [hlim5] at ho
  rw [ints_length, nats_length] at hn5
  subst hn5
  have Q := Lib.hid (hwr.setLim k5 hd5 ho)
  have K0 := Lib.hid ((Chg.refl SRole R w HD0.out).drew.trans (Chg.alloc SRole w.drew HD0.out (.cells #[Value.int .i64 (z.p.tra.length : Int)] 3)))
  clear ho k5 hd5 hwr x11 x6 d11 d6 hlim5
  repeat
    first
      | refine wpSeqN_quiet (v := ?_) rfl (Or.inl ⟨rfl, ?_⟩) ?_
      | refine wpSeqN_pure (v := ?_) rfl (Or.inl ⟨rfl, ?_⟩) ?_
    rotate_left
    focus (intro w hSw; (try dsimp only at hSw); first | (go_simp; done) | (go_simp; with_reducible rfl))
    simp only [Act.put, List.setIfInBounds_toArray, List.set_cons_zero, List.set_cons_succ]
  refine wpSeqN_loud rfl (fun K hK => ?_)
  go_simp
  refine hK.out _ _ (fun h => absurd h (by decide)) ?_
  clear hK K
  try simp only [Act.put, List.setIfInBounds_toArray, List.set_cons_zero, List.set_cons_succ]
  refine wpSeqN_nil ?_
  go_upto_region 1 with (fail)
  refine cutW (fun w1 => ∃ R1 s1, SRep R1 w1 g u s1 { z with lim := z.lim ++ [z.p.tra.length] } ∧ Chg SRole R w R1 w1 ∧ Hid (s1.lim.ownBlock = s1.lim.ownBlock)) ⟨R5, _, Q.out.1, K0.out.trans Q.out.2, rfl⟩ ?_
  clear g11 f11 g6 Q K0
  rintro w1 ⟨R1, s1, q1, k1, -⟩
  obtain ⟨la1, lc1, h11, hlf1, hlc3, hlc4⟩ := q1.limForm
  have tr := HW.out.litOk HL.out
  have trr := tr.rng
  have hvl : z.p.val.length ≤ 1000000000 := by have := HW.out.val; have := HNM.out; omega
  have hts : -1 ≤ z.p.truth l ∧ z.p.truth l ≤ 1 := by
    unfold PS.truth
    split <;> omega
  have TC : Hid (Calls Try.prog 61 #[.pointer (some ⟨g, 0, none⟩), .int .i64 l] w1 fun e w' => e = .returned (.int .i8 (z.p.truth l)) ∧ w1 = w') := truth_calls q1.1 l tr.val trr
  have SC := Lib.hid (set_calls q1.1 l (-1) tr.val tr.rea hvl htra)
  have Q1 := Lib.hid (And.intro q1 k1)
  have HT : Hid (z.p.truth l = z.p.truth l) := rfl
  have HS := Lib.hid hlf1
  clear hvl tr trr q1 k1 hlf1
  by_cases h0 : z.p.truth l = 0
  · have ED : Hid (z.decide l = { z with lim := z.lim ++ [z.p.tra.length], p := z.p.set l (-1), lev := z.lev.set l.natAbs ((z.lim.length : Int) + 1) }) := by show _ = _; unfold SS.decide; rw [if_pos h0]
    have TC0 : Hid (Calls Try.prog 61 #[.pointer (some ⟨g, 0, none⟩), .int .i64 l] w1 fun e w' => e = .returned (.int .i8 0) ∧ w1 = w') := by have := TC.out; rw [h0] at this; exact this
    clear TC h0 hts HT
    go_upto_region 3 with (first | (go_at_call 61; go_loud (refine TC0.out.mono ?_; rintro e w2 ⟨rfl, rfl⟩)) | (go_at_call 68; go_loud (refine SC.out.mono ?_; rintro e w3 ⟨rfl, R3, u3, q3, k3, -⟩)))
    refine cutW (fun w3 => ∃ R3 u3, SRep R3 w3 g u3 s1 { z with lim := z.lim ++ [z.p.tra.length], p := z.p.set l (-1) } ∧ Chg SRole R w R3 w3) ⟨R3, u3, (Q1.out.1.lift q3 k3 rfl).1, Q1.out.2.trans (Q1.out.1.lift q3 k3 rfl).2⟩ ?_
    clear q3 k3 h11 SC TC0
    rintro w4 ⟨R4, u4, q4, k4⟩
    obtain ⟨la4, lc4, h11, hlf4, hlc5, hlc6⟩ := q4.limForm
    rw [List.length_append, List.length_singleton] at h11 hlf4 hlc5
    obtain ⟨vb, vc, h12, lcell, lf, hset⟩ := q4.atLev (i := l.natAbs) (by have := HV.out; have := HL.out.2; show l.natAbs < z.lev.length; omega)
    have hll : l.natAbs < z.lev.length := by have := HV.out; have := HL.out.2; omega
    have Q4 := Lib.hid (hset ((z.lim.length + 1 : Nat) : Int))
    have K4 := Lib.hid k4
    have h12' : w4.cell? ⟨g, 12, none⟩ = some (.slice (some ⟨vb, 0, none⟩) z.lev.length vc) := h12
    clear q4 hset k4 hlf4 h12
    go_wp2_with fail
    go_still_tail 12, (by kernel_rfl)
    still_call (mag_still _ _ (by omega) (by omega))
    repeat still_step
    refine wpStill_nil ?_
    go_wp2
    go_end0
    refine ⟨rfl, R4, u4, s1, ?_, (K4.out.trans Q4.out.2).drew⟩
    rw [ED.out]
    have := Q4.out.1.drew
    rw [show ((z.lim.length + 1 : Nat) : Int) = (z.lim.length : Int) + 1 from by omega] at this
    exact this
  · have ED : Hid (z.decide l = { z with lim := z.lim ++ [z.p.tra.length] }) := by show _ = _; unfold SS.decide; rw [if_neg h0]
    have TC0 : Hid (Calls Try.prog 61 #[.pointer (some ⟨g, 0, none⟩), .int .i64 l] w1 fun e w' => e = .returned (.int .i8 (z.p.truth l)) ∧ w1 = w') := TC.out
    generalize z.p.truth l = t at *
    have bt : (t == 0) = false := by simp [h0]
    clear TC SC
    go_wp2_with (go_at_call 61; refine TC0.out.mono ?_; rintro e w2 ⟨rfl, rfl⟩)
    go_end0
    exact ⟨rfl, R1, u, s1, by rw [ED.out]; exact Q1.out.1, Q1.out.2⟩
end Go.Proofs.Ytjbdiobnlmhidaa
namespace Go.Proofs.Ytjbdiobnlmhidaa
open Go Go.RowKit

theorem RdS.from {w : World} {B : Nat → Prop} {a : Option Addr} {n c : Nat} {xs : List Value} (h : RdS w B (.slice a n c) xs) {k : Nat} (hk : k ≤ xs.length) : RdS w B (.slice (if c = k then a else a.map (fun x => x.add k)) (n - k) (c - k)) (xs.drop k) := by
  rcases h with ⟨⟨a0, e⟩, rfl⟩ | ⟨b', o', c', e, h1, h2, h3, h4, h5⟩
  · cases e
    obtain rfl : k = 0 := by simpa using hk
    exact .inl ⟨⟨_, rfl⟩, rfl⟩
  · cases e
    have h : RdS w B (.slice (some ⟨b', o', none⟩) xs.length c) xs := .inr ⟨b', o', c, rfl, h1, h2, h3, h4, h5⟩
    by_cases hc : c = k
    · rw [if_pos hc]
      exact h.back hk rfl rfl (fun hlt => by omega)
    · rw [if_neg hc]
      have ha : (⟨b', o', none⟩ : Addr).add k = ⟨b', o' + k, none⟩ := by
        unfold Addr.add; split
        · simp [*]
        · rfl
      show RdS w B (.slice (some ((⟨b', o', none⟩ : Addr).add k)) _ _) _
      rw [ha]
      exact h.back hk rfl rfl (fun _ => rfl)

theorem add_zero_opt (a : Option Addr) : Option.map (fun x => x.add 0) a = a := by
  cases a <;> simp [Addr.add]

def levAll (lev : List Int) (t : List Int) (x : Int) : List Int := t.foldl (fun v l => v.set l.natAbs x) lev
theorem levAll_len : ∀ (t lev : List Int) (x : Int), (levAll lev t x).length = lev.length
  | [], _, _ => rfl
  | l :: r, lev, x => by show (levAll (lev.set l.natAbs x) r x).length = _; rw [levAll_len]; simp
theorem levAll_step {lev t : List Int} {x : Int} {i : Nat} (hi : i < t.length) : levAll lev (t.take (i + 1)) x = (levAll lev (t.take i) x).set (t.getD i 0).natAbs x := by
  rw [← take_oneI hi]
  unfold levAll
  rw [List.foldl_append]; rfl

/-- the trail's length when the last decision was made -/
def SS.from (z : SS) : Nat := z.lim.getD (z.lim.length - 1) 0
def SS.deduced (z : SS) (p : PS) : SS := { z with p := p, lev := levAll z.lev (p.tra.drop z.from) z.lim.length }

set_option maxRecDepth 100000 in
set_option maxHeartbeats 16000000 in
theorem deduce_calls {I : PS → Prop} (SI : StepInv I) {R : Roles} {w : World} {g : Nat} {u : PV} {s : SV} {z : SS} (h : SRep R w g u s z) (hI : I z.p) {r : Nat} {res : PS × Bool} (hr : PS.propagate r z.p = some res) (hn : res.1.n = z.p.n)
    (hwf : WF res.1) (hat : z.from ≤ res.1.tra.length) (hlev : (z.lev.length : Int) = z.p.n + 1) (hlim : z.lim.length ≤ 1000000000) :
    Calls Try.prog 59 #[.pointer (some ⟨g, 0, none⟩)] w (SPost R w g (z.deduced res.1) (.bool res.2)) := by
  obtain ⟨la, lc, h11, hlf, hlc1, hlc2⟩ := h.limForm
  have HSI : Hid (∀ w', SRep R w' g u s z → Calls Try.prog 54 #[.pointer (some ⟨g, 0, none⟩)] w' (PPost R w' g 72 (sext s) res.1 (.bool res.2))) := fun w' h => propagate_calls SI h.1 hI hr
  have HR := Lib.hid (And.intro hn (And.intro hwf hlev))
  have H := Lib.hid h
  obtain ⟨fr, hfr⟩ : ∃ fr, z.from = fr := ⟨_, rfl⟩
  have HFR := Lib.hid hfr
  have HLF := Lib.hid hlf
  rw [hfr] at hat
  clear SI hI hr hn hwf hlev hlf
  by_cases hl0 : z.lim.length = 0
  · have e0 : z.lim = [] := List.eq_nil_of_length_eq_zero hl0
    have ef : fr = 0 := by rw [← hfr]; unfold SS.from; rw [e0]; rfl
    subst ef
    rw [hl0] at h11
    clear h hfr
    go_enter Try.func59, Try.ntmps59
    have K0 : Hid (SRep R w g u s z ∧ Chg SRole R w R w) := ⟨H.out, Chg.refl _ _ _ H.out.1.dom⟩
    have PC := Lib.hid (HSI.out _ K0.out.1)
    clear HLF
    go_upto_region 5 with (go_at_call 54; refine PC.out.mono ?_; rintro e w1 ⟨rfl, R1, u1, q1, k1⟩)
    refine cutW (fun w1 => ∃ R1 u1, SRep R1 w1 g u1 s { z with p := res.1 } ∧ Chg SRole R w R1 w1) ⟨R1, u1, (K0.out.1.lift q1 k1 HR.out.1).1, K0.out.2.trans (K0.out.1.lift q1 k1 HR.out.1).2⟩ ?_
    clear q1 k1 PC K0 h11 H hl0 e0
    rintro w2 ⟨R2, u2, q2, k2⟩
    obtain ⟨ta, tc, htf, htc1, htc2, -⟩ := q2.1.tra.form
    rw [ints_length] at htf htc1
    unfold maxLen at htc2
    have h6 := q2.1.cells.2.2.2.2.2.2.1
    rw [htf] at h6
    have HTF := Lib.hid htf
    have Q2 := Lib.hid (And.intro q2 k2)
    clear q2 k2 htf
    obtain ⟨T, hT⟩ : ∃ T, res.1.tra = T := ⟨_, rfl⟩
    have HT := Lib.hid hT
    have htl : ({ z with p := res.1 } : SS).p.tra = T := hT
    rw [htl] at h6 htc1
    have HTF2 : Hid (u2.tra = .slice ta T.length tc) := by have := HTF.out; rw [htl] at this; exact this
    rw [hT] at hat
    clear htl hT HTF
    have HLEN : Hid ((T.drop 0).length = T.length) := by show _ = _; rw [List.length_drop]; simp
    go_wp2_with fail
    go_loopg [37] (T.length) (fun kq v37 w' => ∃ k : Nat, v37 = .int .i64 k ∧ k + kq = T.length ∧ Hid (SRep R2 w' g u2 s { z with p := res.1, lev := levAll z.lev ((T.drop 0).take k) z.lim.length } ∧ Chg SRole R w R2 w'))
    case atStart => exact ⟨0, rfl, by omega, Q2.out⟩
    case round =>
      clear Q2 h6
      obtain ⟨k, rfl, hk, Q2⟩ := hrel
      by_cases hlt : k < T.length
      · have hrd := Q2.out.1.1.tra.rd
        rw [HTF2.out] at hrd
        have hfr := hrd.from (k := 0) (by rw [ints_length]; show _ ≤ res.1.tra.length; rw [HT.out]; omega)
        rw [show (ints ({ z with p := res.1, lev := levAll z.lev ((T.drop 0).take k) z.lim.length } : SS).p.tra).drop 0 = ints (T.drop 0) from by rw [← HT.out]; simp [ints, List.map_drop]] at hfr
        obtain ⟨rb, ro, eb, rcell, -, -⟩ := hfr.at (i := k) (by rw [HLEN.out]; exact hlt)
        have eb2 : ta = some ⟨rb, ro, none⟩ := by rw [add_zero_opt, ite_self] at eb; exact eb
        subst eb2
        have hlm : (T.drop 0).getD k 0 ∈ res.1.tra := by rw [HT.out]; exact List.mem_of_mem_drop (getD_mem (by rw [HLEN.out]; exact hlt))
        have hlit := HR.out.2.1.tra _ hlm
        have EST := Lib.hid (levAll_step (lev := z.lev) (x := z.lim.length) (i := k) (t := T.drop 0) (by rw [HLEN.out]; exact hlt))
        generalize (T.drop 0).getD k 0 = l at *
        have hl2 := hlit.2
        rw [HR.out.1] at hl2
        have hnm := HR.out.2.1.nmax
        rw [HR.out.1] at hnm
        have hla : (l.natAbs : Int) ≤ 100000000 := by omega
        have hlv := levAll_len ((T.drop 0).take k) z.lev z.lim.length
        have hll : l.natAbs < (levAll z.lev ((T.drop 0).take k) z.lim.length).length := by rw [hlv]; have := HR.out.2.2; omega
        obtain ⟨vb, vc, h12, vcell, vf, hset⟩ := Q2.out.1.atLev (i := l.natAbs) hll
        have h12' : wr.cell? ⟨g, 12, none⟩ = some (.slice (some ⟨vb, 0, none⟩) z.lev.length vc) := by rw [← hlv]; exact h12
        have hll' : l.natAbs < z.lev.length := by rw [← hlv]; exact hll
        obtain ⟨la4, lc4, h11, -, -, -⟩ := Q2.out.1.limForm
        have h11' : wr.cell? ⟨g, 11, none⟩ = some (.slice la4 z.lim.length lc4) := h11
        have Q3 := Lib.hid (hset (z.lim.length : Int))
        clear hset hrd hfr hlm hlit hl2 hnm h12 hll hlv h11
        go_upto_region 8 with (fail)
        go_still_tail 12, (by kernel_rfl)
        still_call (mag_still _ _ (by omega) (by omega))
        repeat still_step
        refine wpStill_nil ?_
        go_upto_region 9 with (fail)
        refine cutW (fun w3 => SRep R2 w3 g u2 s { z with p := res.1, lev := levAll z.lev ((T.drop 0).take (k + 1)) z.lim.length } ∧ Chg SRole R w R2 w3) ⟨?_, (Q2.out.2.trans Q3.out.2).drew⟩ ?_
        · have := Q3.out.1.drew
          rw [EST.out]
          exact this
        rintro w3 q3
        clear h12' h11' rcell vcell vf Q3 Q2
        go_wp2
        go_roundg (gk - 1)
        case measure => omega
        case rel => exact ⟨k + 1, by go_num, by omega, q3⟩
      · obtain rfl : k = T.length := by omega
        have HE : Hid (z.deduced res.1 = { z with p := res.1, lev := levAll z.lev ((T.drop 0).take (T.length)) z.lim.length }) := by
          show _ = _
          unfold SS.deduced
          rw [HFR.out, HT.out, ← HLEN.out, List.take_length]
        go_wp2
        go_ret
        exact ⟨rfl, R2, u2, s, by rw [HE.out]; exact Q2.out.1, Q2.out.2⟩
  · obtain ⟨lb, lc', h11', lcell⟩ := h.atLim (i := z.lim.length - 1) (by omega)
    have e1 := h11.symm.trans h11'
    simp only [Option.some.injEq, Value.slice.injEq, true_and] at e1
    obtain ⟨rfl, rfl⟩ := e1
    rw [show z.lim.getD (z.lim.length - 1) 0 = fr from hfr] at lcell
    have hs1 : IntKind.i64.wrap ((z.lim.length : Int) - 1) = ((z.lim.length - 1 : Nat) : Int) := by rw [IntWalk.i64_in _ (by omega)]; omega
    have en : ((z.lim.length : Int) - 1).toNat = z.lim.length - 1 := by omega
    have hll : z.lim.length - 1 < z.lim.length := by omega
    have hlp : 0 < z.lim.length := by omega
    clear h hfr h11' hl0
    go_enter Try.func59, Try.ntmps59
    go_wp2_with fail
    go_quiet (fail)
    have K0 : Hid (SRep R (w.drewN nq) g u s z ∧ Chg SRole R w R (w.drewN nq)) := ⟨H.out.below ⟨rfl, rfl, rfl, Nat.le_refl _, fun _ _ => rfl⟩, (Chg.refl _ _ _ H.out.1.dom).congr rfl rfl rfl rfl⟩
    have PC := Lib.hid (HSI.out _ K0.out.1)
    clear HLF
    go_upto_region 5 with (go_at_call 54; refine PC.out.mono ?_; rintro e w1 ⟨rfl, R1, u1, q1, k1⟩)
    refine cutW (fun w1 => ∃ R1 u1, SRep R1 w1 g u1 s { z with p := res.1 } ∧ Chg SRole R w R1 w1) ⟨R1, u1, (K0.out.1.lift q1 k1 HR.out.1).1, K0.out.2.trans (K0.out.1.lift q1 k1 HR.out.1).2⟩ ?_
    clear q1 k1 PC K0 h11 H hlp hll en hs1 lcell
    rintro w2 ⟨R2, u2, q2, k2⟩
    obtain ⟨ta, tc, htf, htc1, htc2, -⟩ := q2.1.tra.form
    rw [ints_length] at htf htc1
    unfold maxLen at htc2
    have h6 := q2.1.cells.2.2.2.2.2.2.1
    rw [htf] at h6
    have HTF := Lib.hid htf
    have Q2 := Lib.hid (And.intro q2 k2)
    clear q2 k2 htf
    obtain ⟨T, hT⟩ : ∃ T, res.1.tra = T := ⟨_, rfl⟩
    have HT := Lib.hid hT
    have htl : ({ z with p := res.1 } : SS).p.tra = T := hT
    rw [htl] at h6 htc1
    have HTF2 : Hid (u2.tra = .slice ta T.length tc) := by have := HTF.out; rw [htl] at this; exact this
    rw [hT] at hat
    clear htl hT HTF
    obtain ⟨sa, hsa⟩ : ∃ sa, (if tc = fr then ta else Option.map (fun x => x.add fr) ta) = sa := ⟨_, rfl⟩
    have HLEN : Hid ((T.drop fr).length = T.length - fr) := by show _ = _; rw [List.length_drop]
    go_wp2_with fail
    go_loopg [37] (T.length - fr) (fun kq v37 w' => ∃ k : Nat, v37 = .int .i64 k ∧ k + kq = T.length - fr ∧ Hid (SRep R2 w' g u2 s { z with p := res.1, lev := levAll z.lev ((T.drop fr).take k) z.lim.length } ∧ Chg SRole R w R2 w'))
    case atStart => exact ⟨0, rfl, by omega, Q2.out⟩
    case round =>
      clear Q2 h6
      obtain ⟨k, rfl, hk, Q2⟩ := hrel
      by_cases hlt : k < T.length - fr
      · have hrd := Q2.out.1.1.tra.rd
        rw [HTF2.out] at hrd
        have hfr := hrd.from (k := fr) (by rw [ints_length]; show _ ≤ res.1.tra.length; rw [HT.out]; omega)
        rw [show (ints ({ z with p := res.1, lev := levAll z.lev ((T.drop fr).take k) z.lim.length } : SS).p.tra).drop fr = ints (T.drop fr) from by rw [← HT.out]; simp [ints, List.map_drop]] at hfr
        obtain ⟨rb, ro, eb, rcell, -, -⟩ := hfr.at (i := k) (by rw [HLEN.out]; exact hlt)
        rw [hsa] at eb
        subst eb
        have hlm : (T.drop fr).getD k 0 ∈ res.1.tra := by rw [HT.out]; exact List.mem_of_mem_drop (getD_mem (by rw [HLEN.out]; exact hlt))
        have hlit := HR.out.2.1.tra _ hlm
        have EST := Lib.hid (levAll_step (lev := z.lev) (x := z.lim.length) (i := k) (t := T.drop fr) (by rw [HLEN.out]; exact hlt))
        generalize (T.drop fr).getD k 0 = l at *
        have hl2 := hlit.2
        rw [HR.out.1] at hl2
        have hnm := HR.out.2.1.nmax
        rw [HR.out.1] at hnm
        have hla : (l.natAbs : Int) ≤ 100000000 := by omega
        have hlv := levAll_len ((T.drop fr).take k) z.lev z.lim.length
        have hll : l.natAbs < (levAll z.lev ((T.drop fr).take k) z.lim.length).length := by rw [hlv]; have := HR.out.2.2; omega
        obtain ⟨vb, vc, h12, vcell, vf, hset⟩ := Q2.out.1.atLev (i := l.natAbs) hll
        have h12' : wr.cell? ⟨g, 12, none⟩ = some (.slice (some ⟨vb, 0, none⟩) z.lev.length vc) := by rw [← hlv]; exact h12
        have hll' : l.natAbs < z.lev.length := by rw [← hlv]; exact hll
        obtain ⟨la4, lc4, h11, -, -, -⟩ := Q2.out.1.limForm
        have h11' : wr.cell? ⟨g, 11, none⟩ = some (.slice la4 z.lim.length lc4) := h11
        have Q3 := Lib.hid (hset (z.lim.length : Int))
        clear hset hrd hfr hlm hlit hl2 hnm h12 hll hlv h11
        go_upto_region 8 with (fail)
        go_still_tail 12, (by kernel_rfl)
        still_call (mag_still _ _ (by omega) (by omega))
        repeat still_step
        refine wpStill_nil ?_
        go_upto_region 9 with (fail)
        refine cutW (fun w3 => SRep R2 w3 g u2 s { z with p := res.1, lev := levAll z.lev ((T.drop fr).take (k + 1)) z.lim.length } ∧ Chg SRole R w R2 w3) ⟨?_, (Q2.out.2.trans Q3.out.2).drew⟩ ?_
        · have := Q3.out.1.drew
          rw [EST.out]
          exact this
        rintro w3 q3
        clear h12' h11' rcell vcell vf Q3 Q2
        go_wp2
        go_roundg (gk - 1)
        case measure => omega
        case rel => exact ⟨k + 1, by go_num, by omega, q3⟩
      · obtain rfl : k = T.length - fr := by omega
        have HE : Hid (z.deduced res.1 = { z with p := res.1, lev := levAll z.lev ((T.drop fr).take (T.length - fr)) z.lim.length }) := by
          show _ = _
          unfold SS.deduced
          rw [HFR.out, HT.out, ← HLEN.out, List.take_length]
        go_wp2
        go_ret
        exact ⟨rfl, R2, u2, s, by rw [HE.out]; exact Q2.out.1, Q2.out.2⟩
end Go.Proofs.Ytjbdiobnlmhidaa
namespace Go.Proofs.Ytjbdiobnlmhidaa
open Go Go.RowKit

def SS.back (z : SS) (k : Nat) : SS :=
  if z.lim.length ≤ k then z
  else { z with p := { z.p with val := PS.zeroed z.p.val (z.p.tra.drop (z.lim.getD k 0)), tra := z.p.tra.take (z.lim.getD k 0), head := min z.p.head ((z.lim.getD k 0 : Nat) : Int), fal := -1 }, lim := z.lim.take k }

set_option maxRecDepth 100000 in
set_option maxHeartbeats 16000000 in
theorem back_calls {R : Roles} {w : World} {g : Nat} {u : PV} {s : SV} {z : SS} (h : SRep R w g u s z) (hwf : WF z.p) (k : Nat) (hk : k ≤ 1000000000) (hat : k < z.lim.length → z.lim.getD k 0 ≤ z.p.tra.length) (hlim : z.lim.length ≤ 1000000000) :
    Calls Try.prog 58 #[.pointer (some ⟨g, 0, none⟩), .int .i64 k] w (SPost R w g (z.back k) (.tuple #[])) := by
  obtain ⟨la, lc, h11, hlf, hlc1, hlc2⟩ := h.limForm
  have H := Lib.hid h
  by_cases hl : z.lim.length ≤ k
  · have HE : Hid (z.back k = z) := by show _ = _; unfold SS.back; rw [if_pos hl]
    clear h hwf hat
    go_enter Try.func58, Try.ntmps58
    go_wp2
    go_end0
    exact ⟨rfl, R, u, s, by rw [HE.out]; exact H.out, Chg.refl _ _ _ H.out.1.dom⟩
  · obtain ⟨lb, lc', h11', lcell⟩ := h.atLim (i := k) (by omega)
    have e1 := h11.symm.trans h11'
    simp only [Option.some.injEq, Value.slice.injEq, true_and] at e1
    obtain ⟨rfl, rfl⟩ := e1
    have hat' := hat (by omega)
    have HE : Hid (z.back k = { z with p := { z.p with val := PS.zeroed z.p.val (z.p.tra.drop (z.lim.getD k 0)), tra := z.p.tra.take (z.lim.getD k 0), head := min z.p.head ((z.lim.getD k 0 : Nat) : Int), fal := -1 }, lim := z.lim.take k }) := by show _ = _; unfold SS.back; rw [if_neg hl]
    generalize z.lim.getD k 0 = fr at *
    obtain ⟨ta, tc, htf, htc1, htc2, -⟩ := h.1.tra.form
    rw [ints_length] at htf htc1
    unfold maxLen at htc2
    have h6 := h.1.cells.2.2.2.2.2.2.1
    rw [htf] at h6
    have HTF := Lib.hid htf
    have HWF := Lib.hid hwf
    have HLF := Lib.hid hlf
    have hkl : k < z.lim.length := by omega
    clear h hat htf hwf h11' hlf hl
    obtain ⟨T, hT⟩ : ∃ T, z.p.tra = T := ⟨_, rfl⟩
    have HT := Lib.hid hT
    rw [hT] at h6 htc1 hat' HTF HE
    clear hT
    obtain ⟨sa, hsa⟩ : ∃ sa, (if tc = fr then ta else Option.map (fun x => x.add fr) ta) = sa := ⟨_, rfl⟩
    have HLEN : Hid ((T.drop fr).length = T.length - fr) := by show _ = _; rw [List.length_drop]
    go_enter Try.func58, Try.ntmps58
    go_wp2_with fail
    go_loopg [30] (T.length - fr) (fun kq v30 w' => ∃ j : Nat, v30 = .int .i64 j ∧ j + kq = T.length - fr ∧ Hid (SRep R w' g u s { z with p := { z.p with val := PS.zeroed z.p.val ((T.drop fr).take j) } } ∧ Chg SRole R w R w'))
    case atStart => exact ⟨0, rfl, by omega, H.out, Chg.refl _ _ _ H.out.1.dom⟩
    case round =>
      clear H h6 h11 lcell
      obtain ⟨j, rfl, hj, Q2⟩ := hrel
      by_cases hlt : j < T.length - fr
      · have hrd := Q2.out.1.1.tra.rd
        rw [HTF.out] at hrd
        have hfr := hrd.from (k := fr) (by rw [ints_length]; show _ ≤ z.p.tra.length; rw [HT.out]; omega)
        rw [show (ints ({ z with p := { z.p with val := PS.zeroed z.p.val ((T.drop fr).take j) } } : SS).p.tra).drop fr = ints (T.drop fr) from by rw [← HT.out]; simp [ints, List.map_drop]] at hfr
        obtain ⟨rb, ro, eb, rcell, -, -⟩ := hfr.at (i := j) (by rw [HLEN.out]; exact hlt)
        rw [hsa] at eb
        subst eb
        have hlm : (T.drop fr).getD j 0 ∈ z.p.tra := by rw [HT.out]; exact List.mem_of_mem_drop (getD_mem (by rw [HLEN.out]; exact hlt))
        have hlit := HWF.out.tra _ hlm
        have hvl := (HWF.out.litOk hlit).val
        have EST : Hid (PS.zeroed z.p.val ((T.drop fr).take (j + 1)) = (PS.zeroed z.p.val ((T.drop fr).take j)).set ((T.drop fr).getD j 0).natAbs 0) := by show _ = _; rw [← take_oneI (by rw [HLEN.out]; exact hlt), zeroed_snoc]
        generalize (T.drop fr).getD j 0 = l at *
        have hl2 := hlit.2
        have hnm := HWF.out.nmax
        have hla : (l.natAbs : Int) ≤ 100000000 := by omega
        obtain ⟨vb, vc, h4, vcell, vf, VE, VR⟩ := Q2.out.1.1.atVal (i := l.natAbs) (by show _ < (PS.zeroed z.p.val _).length; rw [zeroed_length]; exact hvl)
        have hvr := HWF.out.rng
        have hyr : -1 ≤ (PS.zeroed z.p.val ((T.drop fr).take j)).getD l.natAbs 0 ∧ (PS.zeroed z.p.val ((T.drop fr).take j)).getD l.natAbs 0 ≤ 1 := by
          rw [zeroed_get]
          split
          · omega
          · exact hvr _ (getD_mem hvl)
        have h4' : wr.cell? ⟨g, 4, none⟩ = some (.slice (some ⟨vb, 0, none⟩) z.p.val.length vc) := by have := h4; rw [show ({ z with p := { z.p with val := PS.zeroed z.p.val ((T.drop fr).take j) } } : SS).p.val.length = z.p.val.length from zeroed_length _ _] at this; exact this
        have vcell' : wr.cell? ⟨vb, l.natAbs, none⟩ = some (.int .i8 ((PS.zeroed z.p.val ((T.drop fr).take j)).getD l.natAbs 0)) := vcell
        generalize (PS.zeroed z.p.val ((T.drop fr).take j)).getD l.natAbs 0 = y at *
        obtain ⟨pb, pm, pc, py, h15, pcell, pf, pm1, pm2, -, -, put⟩ := Q2.out.1.atPha (i := l.natAbs) hl2
        have Q3 := Lib.hid (put y hyr.1 hyr.2)
        have PM1 := Lib.hid pm1
        have pm1' : l.natAbs < pm := PM1.out
        clear put pm2 hrd hfr hlm hlit hl2 hnm h4 hvr hyr vcell PM1 VE VR vf pm1
        go_upto_region 6 with (first | (go_at_call 71; refine (magnitude_calls l _ (by omega) (by omega)).mono ?_; rintro e w' ⟨rfl, rfl⟩))
        go_still_tail 14, (by kernel_rfl)
        go_upto_region 7 with (fail)
        refine cutW (fun w3 => SRep R w3 g u s { z with p := { z.p with val := PS.zeroed z.p.val ((T.drop fr).take j) } } ∧ Chg SRole R w R w3) ⟨Q3.out.1.drew, (Q2.out.2.trans Q3.out.2).drew⟩ ?_
        clear h4' vcell' h15 pcell pf Q3 Q2 rcell
        rintro w3 ⟨q3, k3⟩
        obtain ⟨vb2, vc2, h4, vcell, vf, VE, VR⟩ := q3.1.atVal (i := l.natAbs) (by show _ < (PS.zeroed z.p.val _).length; rw [zeroed_length]; exact hvl)
        have h4' : w3.cell? ⟨g, 4, none⟩ = some (.slice (some ⟨vb2, 0, none⟩) z.p.val.length vc2) := by have := h4; rw [show ({ z with p := { z.p with val := PS.zeroed z.p.val ((T.drop fr).take j) } } : SS).p.val.length = z.p.val.length from zeroed_length _ _] at this; exact this
        have Q4 := Lib.hid (And.intro q3 k3)
        have SV := Lib.hid (q3.1.setVal VE.out VR.out (i := l.natAbs) (by show _ < (PS.zeroed z.p.val _).length; rw [zeroed_length]; exact hvl) 0)
        have SC := Lib.hid (Chg.setCell w3 q3.1.dom VR.out l.natAbs none (.int .i8 0))
        clear q3 k3 h4 VE VR
        go_upto_region 8 with (fail)
        refine cutW (fun w4 => SRep R w4 g u s { z with p := { z.p with val := PS.zeroed z.p.val ((T.drop fr).take (j + 1)) } } ∧ Chg SRole R w R w4) ?_ ?_
        · obtain ⟨f1, f2⟩ := Q4.out.1.part SV.out SC.out (by rintro r rfl; simp) rfl
          rw [EST.out]
          exact ⟨f1, Q4.out.2.trans f2⟩
        rintro w4 q4
        clear h4' vcell vf Q4 SV SC
        go_wp2
        go_roundg (gk - 1)
        case measure => omega
        case rel => exact ⟨j + 1, by go_num, by omega, q4⟩
      · obtain rfl : j = T.length - fr := by omega
        have hh0 : Hid ((T.drop fr).take (T.length - fr) = T.drop fr) := by show _ = _; rw [← HLEN.out, List.take_length]
        rw [hh0.out] at Q2
        have h6 := Q2.out.1.1.cells.2.2.2.2.2.2.1
        rw [HTF.out] at h6
        have h7 := Q2.out.1.1.cells.2.2.2.2.2.2.2.1
        have h8 := Q2.out.1.1.cells.2.2.2.2.2.2.2.2.1
        have h11 := Q2.out.1.cells.2.1
        rw [HLF.out] at h11
        have f6 := Q2.out.1.1.free 6
        have f7 := Q2.out.1.1.free 7
        have f8 := Q2.out.1.1.free 8
        have f11 := Q2.out.1.1.free 11
        have h7' : wr.cell? ⟨g, 7, none⟩ = some (.int .i64 z.p.head) := h7
        have ot := Q2.out.1.1.tra
        rw [HTF.out] at ot
        have ot2 := ot.take fr (by rw [ints_length]; show fr ≤ z.p.tra.length; rw [HT.out]; exact hat')
        rw [ints_take, show ({ z with p := { z.p with val := PS.zeroed z.p.val (T.drop fr) } } : SS).p.tra = T from HT.out] at ot2
        have s2 : SRep R (wr.setCell ⟨g, 6, none⟩ (.slice ta fr tc)) g { u with tra := .slice ta fr tc } s { z with p := { z.p with val := PS.zeroed z.p.val (T.drop fr), tra := T.take fr } } :=
          ⟨Q2.out.1.1.putTra (t := T.take fr) (Chg.refl _ _ _ Q2.out.1.1.dom) Q2.out.1.1.dom ot2, (Q2.out.1.2.cellG Q2.out.1.1 6 _).congr rfl rfl rfl rfl⟩
        have hfin : ∀ x : Int, SRep R ((((wr.setCell ⟨g, 6, none⟩ (.slice ta fr tc)).setCell ⟨g, 7, none⟩ (.int .i64 x)).setCell ⟨g, 11, none⟩ (.slice (some ⟨lb, 0, none⟩) k lc)).setCell ⟨g, 8, none⟩ (.int .i64 (-1))) g { u with tra := .slice ta fr tc } { s with lim := .slice (some ⟨lb, 0, none⟩) k lc } { z with p := { z.p with val := PS.zeroed z.p.val (T.drop fr), tra := T.take fr, head := x, fal := -1 }, lim := z.lim.take k } ∧
            Chg SRole R wr R ((((wr.setCell ⟨g, 6, none⟩ (.slice ta fr tc)).setCell ⟨g, 7, none⟩ (.int .i64 x)).setCell ⟨g, 11, none⟩ (.slice (some ⟨lb, 0, none⟩) k lc)).setCell ⟨g, 8, none⟩ (.int .i64 (-1))) := fun x => by
          have s3 : SRep R ((wr.setCell ⟨g, 6, none⟩ (.slice ta fr tc)).setCell ⟨g, 7, none⟩ (.int .i64 x)) g { u with tra := .slice ta fr tc } s { z with p := { z.p with val := PS.zeroed z.p.val (T.drop fr), tra := T.take fr, head := x } } :=
            ⟨s2.1.putHead x, (s2.2.cellG s2.1 7 _).congr rfl rfl rfl rfl⟩
          have ol := s3.2.lim
          rw [HLF.out] at ol
          have ol2 := ol.take k (by rw [ints_length, nats_length]; show k ≤ z.lim.length; omega)
          rw [ints_take, ← nats_take] at ol2
          have s4 := s3.setLim (Chg.refl _ _ _ s3.1.dom) s3.1.dom ol2
          have kg1 := (Chg.setCell wr Q2.out.1.1.dom Q2.out.1.1.rg 6 none (.slice ta fr tc)).mono (S' := SRole) (by rintro r rfl; simp)
          have kg2 := (Chg.setCell _ s2.1.dom s2.1.rg 7 none (.int .i64 x)).mono (S' := SRole) (by rintro r rfl; simp)
          have kg4 := (Chg.setCell _ s4.1.1.dom s4.1.1.rg 8 none (.int .i64 (-1))).mono (S' := SRole) (by rintro r rfl; simp)
          exact ⟨⟨s4.1.1.putFal (-1), (s4.1.2.cellG s4.1.1 8 _).congr rfl rfl rfl rfl⟩, ((kg1.trans kg2).trans s4.2).trans kg4⟩
        have FIN := Lib.hid hfin
        have HK := Lib.hid Q2.out.2
        have hfrt : fr ≤ tc := by omega
        have hklc : k ≤ lc := by omega
        clear s2 hfin ot ot2 Q2 h7 hh0
        by_cases hm : z.p.head ≤ (fr : Int)
        · have e : min z.p.head (fr : Int) = z.p.head := by omega
          rw [e] at HE
          go_wp2
          go_end0
          exact ⟨rfl, R, _, _, by rw [HE.out]; exact (FIN.out _).1, HK.out.trans (FIN.out _).2⟩
        · have e : min z.p.head (fr : Int) = fr := by omega
          rw [e] at HE
          go_wp2
          go_end0
          exact ⟨rfl, R, _, _, by rw [HE.out]; exact (FIN.out _).1, HK.out.trans (FIN.out _).2⟩
end Go.Proofs.Ytjbdiobnlmhidaa
namespace Go.Proofs.Ytjbdiobnlmhidaa
open Go Go.RowKit

/-- the state of the analysis of a conflict -/
structure XS where
  seen : List Bool
  rest : List Int
  opn : Int
def visitLit (lev : List Int) (top pivot : Int) (x : XS) (l : Int) : XS :=
  if l = pivot ∨ x.seen.getD l.natAbs false = true ∨ lev.getD l.natAbs 0 = 0 then x
  else if lev.getD l.natAbs 0 = top then { x with seen := x.seen.set l.natAbs true, opn := x.opn + 1 }
  else { x with seen := x.seen.set l.natAbs true, rest := x.rest ++ [l] }
def visitC (lev : List Int) (top pivot : Int) (c : List Int) (x : XS) : XS := c.foldl (visitLit lev top pivot) x
theorem visitC_step {lev : List Int} {top pivot : Int} {c : List Int} {x : XS} {j : Nat} (h : j < c.length) : visitC lev top pivot (c.take (j + 1)) x = visitLit lev top pivot (visitC lev top pivot (c.take j) x) (c.getD j 0) := by
  rw [← take_oneI h]
  unfold visitC
  rw [List.foldl_append]; rfl

abbrev ARole : Role → Prop := fun r => r.1 < 30

structure XRep (R : Roles) (w : World) (bx : Nat) (vs vr : Value) (x : XS) (top : Int) : Prop where
  xb : w.heap[bx]? = some (.cells #[vs, vr, .int .i64 x.opn, .int .i64 top] 89 (0, 0))
  xr : R bx = some (22, 0)
  os : OwnS R w (21, 0) 4 vs (boos x.seen)
  orr : OwnS R w (20, 0) 3 vr (ints x.rest)

section
variable {R R1 : Roles} {w w1 : World} {bx : Nat} {vs vr : Value} {x : XS} {top : Int}
theorem XRep.chg {S : Role → Prop} (h : XRep R w bx vs vr x top) (k : Chg S R w R1 w1) (hS : ∀ i j, 20 ≤ i → i < 23 → ¬ S (i, j)) : XRep R1 w1 bx vs vr x top where
  xb := by rw [k.kept bx (lt_of_heap h.xb) fun r hr => by rw [h.xr] at hr; cases hr; exact hS _ _ (by omega) (by omega)]; exact h.xb
  xr := by rw [k.old bx (lt_of_heap h.xb)]; exact h.xr
  os := h.os.chg k (hS _ _ (by omega) (by omega))
  orr := h.orr.chg k (hS _ _ (by omega) (by omega))
theorem XRep.cells (h : XRep R w bx vs vr x top) : w.cell? ⟨bx, 0, none⟩ = some vs ∧ w.cell? ⟨bx, 1, none⟩ = some vr ∧ w.cell? ⟨bx, 2, none⟩ = some (.int .i64 x.opn) ∧ w.cell? ⟨bx, 3, none⟩ = some (.int .i64 top) := by
  have hc := fun j => cell_of_row w bx j _ 89 (0, 0) h.xb
  refine ⟨?_, ?_, ?_, ?_⟩ <;> rw [hc] <;> rfl
theorem XRep.free (h : XRep R w bx vs vr x top) (i : Nat) : w.frozen? ⟨bx, i, none⟩ = false := by
  unfold World.frozen?
  rw [h.xb]
  simp
theorem XRep.atSeen (h : XRep R w bx vs vr x top) (hd : Dom R w) {i : Nat} (hi : i < x.seen.length) :
    ∃ b c, vs = .slice (some ⟨b, 0, none⟩) x.seen.length c ∧ w.frozen? ⟨b, i, none⟩ = false ∧ w.cell? ⟨b, i, none⟩ = some (.bool (x.seen.getD i false)) ∧ XRep R (w.setCell ⟨b, i, none⟩ (.bool true)) bx vs vr { x with seen := x.seen.set i true } top ∧ Chg (· = (21, 0)) R w R (w.setCell ⟨b, i, none⟩ (.bool true)) := by
  obtain ⟨b, c, rfl, h1, h2, hR, hb, hcell, hfz⟩ := h.os.cell (i := i) (by simpa using hi)
  rw [boos_length] at *
  have ks := Chg.setCell w hd hR i none (.bool true)
  have hne : b ≠ bx := by rintro rfl; rw [h.xr] at hR; cases hR
  refine ⟨b, c, rfl, hfz, by rw [hcell, boos_get hi], ⟨by rw [setCell_heap_other _ (fun e => hne e.symm)]; exact h.xb, h.xr, ?_, h.orr.chg ks (by simp)⟩, ks⟩
  have := h.os.set (i := i) (by simpa using hi) (.bool true)
  rw [boos_set] at this
  exact this
theorem XRep.setOpn (h : XRep R w bx vs vr x top) (hd : Dom R w) (y : Int) : XRep R (w.setCell ⟨bx, 2, none⟩ (.int .i64 y)) bx vs vr { x with opn := y } top ∧ Chg (· = (22, 0)) R w R (w.setCell ⟨bx, 2, none⟩ (.int .i64 y)) := by
  have ks := Chg.setCell w hd h.xr 2 none (.int .i64 y)
  exact ⟨⟨by rw [setCell_heap_same _ h.xb]; rfl, h.xr, h.os.chg ks (by simp), h.orr.chg ks (by simp)⟩, ks⟩
theorem XRep.setTop (h : XRep R w bx vs vr x top) (hd : Dom R w) (y : Int) : XRep R (w.setCell ⟨bx, 3, none⟩ (.int .i64 y)) bx vs vr x y ∧ Chg (· = (22, 0)) R w R (w.setCell ⟨bx, 3, none⟩ (.int .i64 y)) := by
  have ks := Chg.setCell w hd h.xr 3 none (.int .i64 y)
  exact ⟨⟨by rw [setCell_heap_same _ h.xb]; rfl, h.xr, h.os.chg ks (by simp), h.orr.chg ks (by simp)⟩, ks⟩
theorem XRep.setRest (h : XRep R w bx vs vr x top) (k : Chg (· = (20, 0)) R w R1 w1) (hd : Dom R1 w1) {v' : Value} {l : List Int} (ho : OwnS R1 w1 (20, 0) 3 v' (ints l)) :
    XRep R1 (w1.setCell ⟨bx, 1, none⟩ v') bx vs v' { x with rest := l } top ∧ Chg (fun r => r = (20, 0) ∨ r = (22, 0)) R w R1 (w1.setCell ⟨bx, 1, none⟩ v') := by
  have hlt := lt_of_heap h.xb
  have hb : w1.heap[bx]? = some (.cells #[vs, vr, .int .i64 x.opn, .int .i64 top] 89 (0, 0)) := by rw [k.kept bx hlt fun r hr => by rw [h.xr] at hr; cases hr; simp]; exact h.xb
  have hr : R1 bx = some (22, 0) := by rw [k.old bx hlt]; exact h.xr
  have ks := Chg.setCell w1 hd hr 1 none v'
  exact ⟨⟨by rw [setCell_heap_same _ hb]; rfl, hr, (h.os.chg k (by simp)).chg ks (by simp), ho.chg ks (by simp)⟩, (k.mono (fun _ h => .inl h)).trans (ks.mono (fun _ h => .inr h))⟩
end

def VPost (R : Roles) (w : World) (g : Nat) (u : PV) (z : SS) (bx : Nat) (vs : Value) (x : XS) (top : Int) (e : Ending) (w' : World) : Prop :=
  e = .returned (.tuple #[]) ∧ ∃ R' s' vr, SRep R' w' g u s' z ∧ XRep R' w' bx vs vr x top ∧ Chg ARole R w R' w'

set_option maxRecDepth 100000 in
set_option maxHeartbeats 16000000 in
theorem visitClause_calls {R : Roles} {w : World} {g : Nat} {u : PV} {s : SV} {z : SS} {bx : Nat} {vs vr : Value} {x : XS} {top : Int} (h : SRep R w g u s z) (hx : XRep R w bx vs vr x top) (hwf : WF z.p) (hlev : (z.lev.length : Int) = z.p.n + 1) (hsl : (x.seen.length : Int) = z.p.n + 1)
    {i : Nat} (hi : i < z.p.cls.length) (pivot : Int) (ho : 0 ≤ x.opn ∧ x.opn ≤ 1000000000) (hr : x.rest.length ≤ 1000000000) :
    Calls Try.prog 73 #[.pointer (some ⟨g, 0, none⟩), .pointer (some ⟨bx, 0, none⟩), u.crow.getD i undef, .int .i64 pivot] w (VPost R w g u z bx vs (visitC z.lev top pivot (z.p.cls.getD i []) x) top) := by
  obtain ⟨ra, rc, er, hr1, hr2, -⟩ := h.1.atCrow hi
  unfold maxLen at hr2
  obtain ⟨cl, hC⟩ : ∃ cl, z.p.cls.getD i [] = cl := ⟨_, rfl⟩
  have hcl := hwf.clen _ (getD_mem (d := []) hi)
  rw [hC] at er hr1 hcl ⊢
  rw [er]
  have HC := Lib.hid hC
  have HER := Lib.hid er
  have HW := Lib.hid hwf
  have HLV := Lib.hid hlev
  have H := Lib.hid (And.intro h (And.intro hx (Chg.refl ARole R w h.1.dom)))
  have HOP := Lib.hid (And.intro ho hr)
  have HSL := Lib.hid hsl
  clear h hx hwf hlev hsl hC er ho hr
  go_enter Try.func73, Try.ntmps73
  go_wp2_with fail
  go_loopg [13] cl.length (fun kq v13 w' => ∃ (j : Nat) (R1 : Roles) (s1 : SV) (vr1 : Value), v13 = .int .i64 j ∧ j + kq = cl.length ∧ Hid (SRep R1 w' g u s1 z ∧ XRep R1 w' bx vs vr1 (visitC z.lev top pivot (cl.take j) x) top ∧ Chg ARole R w R1 w') ∧
    Hid ((0 ≤ (visitC z.lev top pivot (cl.take j) x).opn ∧ (visitC z.lev top pivot (cl.take j) x).opn ≤ 1000000000 + j) ∧ (visitC z.lev top pivot (cl.take j) x).rest.length ≤ 1000000000 + j ∧ ((visitC z.lev top pivot (cl.take j) x).seen.length : Int) = z.p.n + 1))
  case atStart => exact ⟨0, R, s, vr, rfl, by omega, H.out, ⟨HOP.out.1.1, by have := HOP.out.1.2; show x.opn ≤ _; omega⟩, HOP.out.2, HSL.out⟩
  case round =>
    clear H
    obtain ⟨j, R1, s1, vr1, rfl, hj, H, HB⟩ := hrel
    by_cases hlt : j < cl.length
    · obtain ⟨ra', rc', er, -, -, hrow⟩ := H.out.1.1.atCrow hi
      rw [HC.out] at er hrow
      have e3 := HER.out.symm.trans er
      simp only [Value.slice.injEq, true_and] at e3
      obtain ⟨rfl, rfl⟩ := e3
      obtain ⟨rb, rfl, rcell, -, -⟩ := hrow j hlt
      have hlit := HW.out.lit _ (getD_mem (d := []) hi) (cl.getD j 0) (by rw [HC.out]; exact getD_mem hlt)
      have EST := Lib.hid (visitC_step (lev := z.lev) (top := top) (pivot := pivot) (x := x) hlt)
      generalize cl.getD j 0 = l at *
      have hl2 := hlit.2
      have hnm := HW.out.nmax
      have hla : (l.natAbs : Int) ≤ 100000000 := by omega
      generalize visitC z.lev top pivot (cl.take j) x = xj at *
      obtain ⟨vb, vc, h12, lcell, -, -⟩ := H.out.1.atLev (i := l.natAbs) (by have := HLV.out; omega)
      obtain ⟨sb, sc, hvs, sf, scell, xset, kset⟩ := H.out.2.1.atSeen H.out.1.1.dom (i := l.natAbs) (by have := HB.out.2.2; omega)
      have hsl1 : l.natAbs < xj.seen.length := by have := HB.out.2.2; omega
      have hll1 : l.natAbs < z.lev.length := by have := HLV.out; omega
      have x0 := H.out.2.1.cells.1
      rw [hvs] at x0
      have HVS := Lib.hid hvs
      have HST := Lib.hid (And.intro xset kset)
      have HLN := Lib.hid hl2
      have HNM := Lib.hid hnm
      clear hvs xset kset hrow er hlit hl2 hnm
      have ED : Hid (visitLit z.lev top pivot xj l = if l = pivot ∨ xj.seen.getD l.natAbs false = true ∨ z.lev.getD l.natAbs 0 = 0 then xj
        else if z.lev.getD l.natAbs 0 = top then { xj with seen := xj.seen.set l.natAbs true, opn := xj.opn + 1 }
        else { xj with seen := xj.seen.set l.natAbs true, rest := xj.rest ++ [l] }) := rfl
      have HSK : Hid ((l = pivot ∨ xj.seen.getD l.natAbs false = true ∨ z.lev.getD l.natAbs 0 = 0) → visitC z.lev top pivot (cl.take (j + 1)) x = xj) := fun hc => by rw [EST.out, ED.out, if_pos hc]
      by_cases h1 : l = pivot
      · have HX := Lib.hid (HSK.out (.inl h1))
        clear HSK ED EST HST
        have b1 : (l == pivot) = true := by simp [h1]
        clear h1
        go_wp2_with (go_at_call 71; refine (magnitude_calls l _ (by omega) (by omega)).mono ?_; rintro e w' ⟨rfl, rfl⟩)
        go_roundg (gk - 1)
        case measure => omega
        case rel => exact ⟨j + 1, R1, s1, vr1, by go_num, by omega, by rw [HX.out]; exact H.out, by rw [HX.out]; have := HB.out; exact ⟨⟨this.1.1, by omega⟩, by omega, this.2.2⟩⟩
      · have b1 : (l == pivot) = false := by simp [h1]
        have H1 := Lib.hid h1
        clear h1
        by_cases h2 : xj.seen.getD l.natAbs false = true
        · have HX := Lib.hid (HSK.out (.inr (.inl h2)))
          rw [h2] at scell
          clear HSK ED EST HST h2
          go_wp2_with (go_at_call 71; refine (magnitude_calls l _ (by omega) (by omega)).mono ?_; rintro e w' ⟨rfl, rfl⟩)
          go_roundg (gk - 1)
          case measure => omega
          case rel => exact ⟨j + 1, R1, s1, vr1, by go_num, by omega, by rw [HX.out]; exact H.out, by rw [HX.out]; have := HB.out; exact ⟨⟨this.1.1, by omega⟩, by omega, this.2.2⟩⟩
        · have h2' : xj.seen.getD l.natAbs false = false := by simpa using h2
          rw [h2'] at scell
          have H2 := Lib.hid h2
          clear h2 h2'
          by_cases h3 : z.lev.getD l.natAbs 0 = 0
          · have HX := Lib.hid (HSK.out (.inr (.inr h3)))
            rw [h3] at lcell
            clear HSK ED EST HST h3
            go_wp2_with (go_at_call 71; refine (magnitude_calls l _ (by omega) (by omega)).mono ?_; rintro e w' ⟨rfl, rfl⟩)
            go_roundg (gk - 1)
            case measure => omega
            case rel => exact ⟨j + 1, R1, s1, vr1, by go_num, by omega, by rw [HX.out]; exact H.out, by rw [HX.out]; have := HB.out; exact ⟨⟨this.1.1, by omega⟩, by omega, this.2.2⟩⟩
          · have b3 : (z.lev.getD l.natAbs 0 == 0) = false := beq_eq_false_iff_ne.2 h3
            have ED2 : Hid (visitC z.lev top pivot (cl.take (j + 1)) x = if z.lev.getD l.natAbs 0 = top then { xj with seen := xj.seen.set l.natAbs true, opn := xj.opn + 1 }
              else { xj with seen := xj.seen.set l.natAbs true, rest := xj.rest ++ [l] }) := by
              show _ = _
              rw [EST.out, ED.out, if_neg (by rintro (h | h | h); exact H1.out h; exact H2.out h; exact h3 h)]
            generalize hlv : z.lev.getD l.natAbs 0 = lv at *
            have HLV2 := Lib.hid hlv
            clear HSK ED EST h3 hlv
            go_upto_region 6 with (go_at_call 71; refine (magnitude_calls l _ (by omega) (by omega)).mono ?_; rintro e w' ⟨rfl, rfl⟩)
            refine cutW (fun w2 => SRep R1 w2 g u s1 z ∧ XRep R1 w2 bx vs vr1 { xj with seen := xj.seen.set l.natAbs true } top ∧ Chg ARole R w R1 w2) ⟨H.out.1.chg HST.out.2 (fun i j hi e => by cases e; omega) (H.out.1.1.dom.setCell _ _), HST.out.1, H.out.2.2.trans (HST.out.2.mono (by rintro r rfl; simp))⟩ ?_
            clear H HST x0 scell sf lcell h12 rcell
            rintro w2 ⟨q2, x2, k2⟩
            have HBM := Lib.hid (bump_calls q2 HLN.out HNM.out)
            have H2' := Lib.hid (And.intro x2 k2)
            clear q2 x2 k2
            go_upto_region 7 with (go_at_call 76; refine HBM.out.mono ?_; rintro e w3 ⟨rfl, s3, q3, k3⟩)
            refine cutW (fun w3 => ∃ s3, SRep R1 w3 g u s3 z ∧ XRep R1 w3 bx vs vr1 { xj with seen := xj.seen.set l.natAbs true } top ∧ Chg ARole R w R1 w3) ⟨s3, q3, H2'.out.1.chg k3 (fun i j h1 h2 e => by have : i < 20 := e; omega), H2'.out.2.trans (k3.mono (fun r h => by have : r.1 < 20 := h; show r.1 < 30; omega))⟩ ?_
            clear q3 k3 H2' HBM
            rintro w3 ⟨s3, q3, x3, k3⟩
            obtain ⟨vb2, vc2, h12, lcell, -, -⟩ := q3.atLev (i := l.natAbs) (by have := HLV.out; have := HLN.out; omega)
            rw [HLV2.out] at lcell
            have c3 := x3.cells.2.2.2
            have H3 := Lib.hid (And.intro q3 (And.intro x3 k3))
            clear q3 x3 k3
            by_cases ht : lv = top
            · have bt : (lv == top) = true := by simp [ht]
              have EV : Hid (visitC z.lev top pivot (cl.take (j + 1)) x = { xj with seen := xj.seen.set l.natAbs true, opn := xj.opn + 1 }) := by show _ = _; rw [ED2.out, if_pos ht]
              clear ht ED2
              go_wp2_with fail
              go_quiet (fail)
              have q4 : SRep R1 (w3.drewN nq) g u s3 z := H3.out.1.below ⟨rfl, rfl, rfl, Nat.le_refl _, fun _ _ => rfl⟩
              have kd := (Chg.refl (fun _ => False) R1 w3 H3.out.1.1.dom).congr (w1 := w3.drewN nq) rfl rfl rfl rfl
              have x4 := H3.out.2.1.chg kd (fun _ _ _ _ h => h)
              have c2 := x4.cells.2.2.1
              have f2 := x4.free 2
              have H4 := Lib.hid (And.intro q4 (And.intro x4 (H3.out.2.2.congr (w1 := w3.drewN nq) rfl rfl rfl rfl)))
              have hsum : IntKind.i64.wrap (xj.opn + 1) = xj.opn + 1 := IntWalk.i64_in _ (by have := HB.out.1; omega)
              have c2' : (w3.drewN nq).cell? ⟨bx, 2, none⟩ = some (.int .i64 xj.opn) := c2
              have X5 := Lib.hid (x4.setOpn q4.1.dom (xj.opn + 1))
              clear q4 kd x4 c2
              go_wp2
              go_roundg (gk - 1)
              case measure => omega
              case rel =>
                exact ⟨j + 1, R1, s3, vr1, by go_num, by omega, by
                  rw [EV.out]
                  exact ⟨H4.out.1.chg X5.out.2 (fun i j hi e => by cases e; omega) (H4.out.1.1.dom.setCell _ _), X5.out.1, H4.out.2.2.trans (X5.out.2.mono (by rintro r rfl; simp))⟩, by
                  rw [EV.out]
                  have := HB.out
                  exact ⟨⟨by show 0 ≤ xj.opn + 1; omega, by show xj.opn + 1 ≤ _; omega⟩, by show xj.rest.length ≤ _; omega, by show ((xj.seen.set _ _).length : Int) = _; rw [List.length_set]; exact this.2.2⟩⟩
            · have bt : (lv == top) = false := by simp [ht]
              have EV : Hid (visitC z.lev top pivot (cl.take (j + 1)) x = { xj with seen := xj.seen.set l.natAbs true, rest := xj.rest ++ [l] }) := by show _ = _; rw [ED2.out, if_neg ht]
              clear ht ED2
              go_wp2_with fail
              go_quiet (fail)
              have q4 : SRep R1 (w3.drewN nq) g u s3 z := H3.out.1.below ⟨rfl, rfl, rfl, Nat.le_refl _, fun _ _ => rfl⟩
              have kd := (Chg.refl (fun _ => False) R1 w3 H3.out.1.1.dom).congr (w1 := w3.drewN nq) rfl rfl rfl rfl
              have x4 := H3.out.2.1.chg kd (fun _ _ _ _ h => h)
              have q5 := q4.alloc (.cells #[Value.int .i64 l] 3)
              have x5 := x4.chg (Chg.alloc (fun _ => False) _ q4.1.dom (.cells #[Value.int .i64 l] 3)) (fun _ _ _ _ h => h)
              have c1 := x4.cells.2.1
              have K5 := Lib.hid ((H3.out.2.2.congr (w1 := w3.drewN nq) rfl rfl rfl rfl).trans (Chg.alloc ARole _ q4.1.dom (.cells #[Value.int .i64 l] 3)))
              have H5 := Lib.hid (And.intro q5 x5)
              clear q4 kd x4
              go_wp2_with (at_builtin; refine wpList_app Try.underlying23 info3 rfl rfl _ _ rfl _ _ rfl x5.orr q5.1.dom _ 1 1 [.int .i64 l] rfl rfl (cell_one_new _ _ _) (by simp [Value.oneCell']) (by omega) (by have := HB.out.2.1; rw [ints_length]; show xj.rest.length + 1 ≤ _; omega) ?_)
              rintro a6 n6 c6 w6 R6 ho k6 hd6 -
              rw [show [Value.int .i64 l] = ints [l] from rfl, ints_append] at ho
              have X6 := Lib.hid (x5.setRest k6 hd6 ho)
              have Q6 := Lib.hid (q5.chg k6 (fun i j hi e => by cases e; omega) hd6)
              have hb6 : w6.heap[bx]? = some (.cells #[vs, vr1, .int .i64 xj.opn, .int .i64 top] 89 (0, 0)) := by rw [k6.kept bx (lt_of_heap x5.xb) fun r hr => by rw [x5.xr] at hr; cases hr; simp]; exact x5.xb
              have g1 : w6.cell? ⟨bx, 1, none⟩ = some vr1 := by rw [cell_of_row w6 bx 1 _ 89 (0, 0) hb6]; rfl
              have f1 : w6.frozen? ⟨bx, 1, none⟩ = false := by unfold World.frozen?; rw [hb6]; simp
              have D6 := Lib.hid hd6
              clear ho k6 hd6 q5 x5 hb6 c1
              go_wp2
              go_roundg (gk - 1)
              case measure => omega
              case rel =>
                exact ⟨j + 1, R6, s3, _, by go_num, by omega, by
                  rw [EV.out]
                  refine ⟨Q6.out.chg (Chg.setCell _ D6.out (X6.out.1.xr) 1 none _) (fun i j hi e => by cases e; omega) (D6.out.setCell _ _), X6.out.1, K5.out.trans (X6.out.2.mono (by rintro r (rfl | rfl) <;> simp))⟩, by
                  rw [EV.out]
                  have := HB.out
                  exact ⟨⟨by show 0 ≤ xj.opn; omega, by show xj.opn ≤ _; omega⟩, by show (xj.rest ++ [l]).length ≤ _; simp; omega, by show ((xj.seen.set _ _).length : Int) = _; rw [List.length_set]; exact this.2.2⟩⟩
    · obtain rfl : j = cl.length := by omega
      rw [List.take_length] at H
      go_wp2
      go_end0
      exact ⟨rfl, R1, s1, vr1, H.out.1, H.out.2.1, H.out.2.2⟩
end Go.Proofs.Ytjbdiobnlmhidaa
