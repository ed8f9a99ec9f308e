/- Lists of signatures: light, the same, found: plain functions. -/
import Derived.Test.YtappdmioncdefaaDoorPure2
import Derived.Test.YtappdmioncdefaaDoorQCarlingref04Light
import Derived.Test.YtappdmioncdefaaDoorQCarlingref04Same
namespace Go.Proofs.YtappdmioncdefaaDoor.Q
open Go.RowKit Go.Proofs.YtappdmioncdefaaDoorW.PrintWords Go.Proofs.YtappdmioncdefaaDoorW.PrintLast Go.Proofs.YtappdmioncdefaaDoorW.PrintMore

set_option maxRecDepth 100000 in
theorem awake_60 : carlinglaw04_awake.f 60 = some true := by kernel_rfl
theorem awake_f (k : Nat) (hk : 60 ≤ k) : carlinglaw04_awake.f k = some true := at_rounds (fun k => carlinglaw04_awake.mono k) hk awake_60
theorem awake_ev : Ev (fun k => carlinglaw04_awake.f k) true := ⟨60, fun k hk => awake_f k hk⟩
theorem rd34 (l : List S34) (i : Nat) (h : i < l.length) : rd_T34 l (i : Int) = l[i] := by unfold rd_T34; simp [h]
theorem rd46 (l : List S46) (i : Nat) (h : i < l.length) : rd_T46 l (i : Int) = l[i] := by unfold rd_T46; simp [h]
theorem wrap_nat {i n : Nat} (h : i < n) (hn : n ≤ 9223372036854775807) : wrap64 ((i : Int) + 1) = ((i + 1 : Nat) : Int) := by
  rw [wrap_next (n := n) (by omega) (by omega) (by omega)]; omega

/-! ### light -/
def lightB (l : List S34) : Bool := decide (l.length ≤ 200) && l.all fun x => decide (x.f0.size ≤ 200) && decide (x.f1.length ≤ 50)
theorem light_l0 (l : List S34) (hl : l.length ≤ 200) (d : Nat) : ∀ i, i ≤ l.length → l.length - i = d → Ev (fun k => carlingref04_Light.l0 k l (i : Int)) ((l.drop i).all fun x => decide (x.f0.size ≤ 200) && decide (x.f1.length ≤ 50)) := by
  induction d with
  | zero =>
    intro i h0 h1
    rw [List.drop_eq_nil_of_le (by omega)]
    refine Ev.step (f := fun _ => some true) (fun k => ?_) (Ev.now _)
    simp only [carlingref04_Light.l0]
    rw [if_neg (by omega)]
  | succ d ih =>
    intro i h0 h1
    have hlt : i < l.length := by omega
    have hn := ih (i + 1) (by omega) (by omega)
    rw [List.drop_eq_getElem_cons hlt, List.all_cons]
    by_cases a1 : ((l[i].f0.size : Int)) > 200
    · rw [decide_eq_false (show ¬ l[i].f0.size ≤ 200 by omega)]
      refine Ev.step (f := fun _ => some false) (fun k => ?_) (Ev.now _)
      simp only [carlingref04_Light.l0]
      rw [if_pos (by omega), if_pos (by omega), rd34 l i hlt, if_pos a1]
    · rw [decide_eq_true (show l[i].f0.size ≤ 200 by omega)]
      by_cases a2 : ((l[i].f1.length : Int)) > 50
      · rw [decide_eq_false (show ¬ l[i].f1.length ≤ 50 by omega)]
        refine Ev.step (f := fun _ => some false) (fun k => ?_) (Ev.now _)
        simp only [carlingref04_Light.l0]
        rw [if_pos (by omega), if_pos (by omega), rd34 l i hlt, if_neg a1, if_pos a2]
      · rw [decide_eq_true (show l[i].f1.length ≤ 50 by omega)]
        refine Ev.step (f := fun k => carlingref04_Light.l0 k l ((i + 1 : Nat) : Int)) (fun k => ?_) hn
        simp only [carlingref04_Light.l0]
        rw [if_pos (by omega), if_pos (by omega), rd34 l i hlt, if_neg a1, if_neg a2, wrap_nat hlt (by omega)]
theorem light_ev (l : List S34) : Ev (fun k => carlingref04_Light.f k l) (lightB l) := by
  unfold lightB
  by_cases h : (l.length : Int) > 200
  · rw [decide_eq_false (by omega)]
    exact Ev.congr (f := fun _ => some false) (fun k => by unfold carlingref04_Light.f; rw [if_pos h]) (Ev.now _)
  · rw [decide_eq_true (by omega), Bool.true_and]
    exact Ev.congr (fun k => by unfold carlingref04_Light.f; rw [if_neg h]; rfl) (light_l0 l (by omega) _ 0 (Nat.zero_le _) rfl)
theorem lightB_says {l : List S34} (h : lightB l = true) : l.length ≤ 200 ∧ ∀ x ∈ l, x.f0.size ≤ 200 ∧ x.f1.length ≤ 50 := by
  unfold lightB at h
  simp only [Bool.and_eq_true, decide_eq_true_eq, List.all_eq_true] at h
  exact h

/-! ### the same -/
instance : DecidableEq S46 := fun x y => decidable_of_iff (x.f0 = y.f0 ∧ x.f1 = y.f1) (by obtain ⟨a, b⟩ := x; obtain ⟨c, d⟩ := y; simp)
theorem S46_ne {x y : S46} : ((!(x.f0 == y.f0)) || (!(x.f1 == y.f1))) = true ↔ x ≠ y := by
  obtain ⟨a, b⟩ := x
  obtain ⟨c, d⟩ := y
  simp only [Bool.or_eq_true, Bool.not_eq_true', beq_eq_false_iff_ne, ne_eq, S46.mk.injEq]
  exact ⟨fun h e => h.elim (fun h => h e.1) (fun h => h e.2), fun h => by by_cases e : a = c <;> simp_all⟩
theorem same_l1 (a b : List S34) (i : Nat) (hi : i < a.length) (hib : i < b.length) (ha : a.length ≤ 9223372036854775807) (hn : a[i].f1.length = b[i].f1.length) (hp : a[i].f1.length ≤ 9223372036854775807) (d : Nat) : ∀ j, j ≤ a[i].f1.length → a[i].f1.length - j = d →
    (a[i].f1.drop j = b[i].f1.drop j → ∀ r, Ev (fun k => carlingref04_Same.l0 k a b ((i + 1 : Nat) : Int)) r → Ev (fun k => carlingref04_Same.l1 k a b (i : Int) (j : Int)) r) ∧
    (a[i].f1.drop j ≠ b[i].f1.drop j → Ev (fun k => carlingref04_Same.l1 k a b (i : Int) (j : Int)) false) := by
  induction d with
  | zero =>
    intro j h0 h1
    constructor
    · intro _ r hr
      refine Ev.step (fun k => ?_) hr
      simp only [carlingref04_Same.l1]
      rw [if_pos (by omega), if_pos (by omega), rd34 a i hi, if_neg (by omega), wrap_nat hi ha]
    · intro h
      rw [List.drop_eq_nil_of_le (by omega), List.drop_eq_nil_of_le (by omega)] at h
      exact absurd rfl h
  | succ d ih =>
    intro j h0 h1
    have hja : j < a[i].f1.length := by omega
    have hjb : j < b[i].f1.length := by omega
    obtain ⟨i1, i2⟩ := ih (j + 1) (by omega) (by omega)
    have hs : ∀ k, carlingref04_Same.l1 (k + 1) a b (i : Int) (j : Int) = if a[i].f1[j] ≠ b[i].f1[j] then some false else carlingref04_Same.l1 k a b (i : Int) ((j + 1 : Nat) : Int) := by
      intro k
      simp only [carlingref04_Same.l1]
      rw [if_pos (by omega), if_pos (by omega), rd34 a i hi, rd34 b i hib, if_pos (by omega), if_pos (by omega), if_pos (by omega), if_pos (by omega), rd46 _ j hja, rd46 _ j hjb, wrap_nat hja hp]
      by_cases e : a[i].f1[j] ≠ b[i].f1[j]
      · rw [if_pos e, if_pos (S46_ne.2 e)]
      · rw [if_neg e, if_neg (fun h => e (S46_ne.1 h))]
    rw [List.drop_eq_getElem_cons hja, List.drop_eq_getElem_cons hjb]
    by_cases e : a[i].f1[j] = b[i].f1[j]
    · constructor
      · intro h r hr
        injection h with _ h
        exact Ev.step (fun k => by rw [hs k, if_neg (fun h => h e)]) (i1 h r hr)
      · intro h
        exact Ev.step (fun k => by rw [hs k, if_neg (fun h => h e)]) (i2 (fun h' => h (by rw [e, h'])))
    · constructor
      · intro h; injection h with h _; exact absurd h e
      · intro _
        exact Ev.step (f := fun _ => some false) (fun k => by rw [hs k, if_pos e]) (Ev.now _)
theorem same_j1_true (a b : List S34) (x : Int) : Ev (fun k => carlingref04_Same.j1 k a b x true) false :=
  Ev.step (f := fun _ => some false) (fun k => by simp only [carlingref04_Same.j1, if_true]) (Ev.now _)
theorem same_l0 (a b : List S34) (hab : a.length = b.length) (ha : a.length ≤ 9223372036854775807) (hp : ∀ x ∈ a, x.f1.length ≤ 9223372036854775807) (d : Nat) : ∀ i, i ≤ a.length → a.length - i = d →
    ∃ r, Ev (fun k => carlingref04_Same.l0 k a b (i : Int)) r ∧ (r = true ↔ a.drop i = b.drop i) := by
  induction d with
  | zero =>
    intro i h0 h1
    refine ⟨true, Ev.step (f := fun _ => some true) (fun k => ?_) (Ev.now _), ?_⟩
    · simp only [carlingref04_Same.l0]; rw [if_neg (by omega)]
    · rw [List.drop_eq_nil_of_le (by omega), List.drop_eq_nil_of_le (by omega)]; simp
  | succ d ih =>
    intro i h0 h1
    have hi : i < a.length := by omega
    have hib : i < b.length := by omega
    obtain ⟨r, hr, hri⟩ := ih (i + 1) (by omega) (by omega)
    rw [List.drop_eq_getElem_cons hi, List.drop_eq_getElem_cons hib]
    have hs : ∀ k, carlingref04_Same.l0 (k + 1) a b (i : Int) = if a[i].f0 = b[i].f0 ∧ a[i].f2 = b[i].f2 ∧ a[i].f1.length = b[i].f1.length then carlingref04_Same.j1 k a b (i : Int) false else carlingref04_Same.j1 k a b (i : Int) true := by
      intro k
      simp only [carlingref04_Same.l0]
      rw [if_pos (by omega), if_pos (by omega), if_pos (by omega), rd34 a i hi, rd34 b i hib]
      by_cases e1 : a[i].f0 = b[i].f0
      · rw [if_pos (by rw [e1])]
        by_cases e2 : a[i].f2 = b[i].f2
        · rw [if_neg (by rw [e2]; simp)]
          by_cases e3 : a[i].f1.length = b[i].f1.length
          · rw [if_pos ⟨e1, e2, e3⟩, show ((a[i].f1.length : Int) != (b[i].f1.length : Int)) = false by rw [e3]; simp]
          · rw [if_neg (fun h => e3 h.2.2), show ((a[i].f1.length : Int) != (b[i].f1.length : Int)) = true by rw [bne_iff_ne]; omega]
        · rw [if_pos (bne_iff_ne.2 e2), if_neg (fun h => e2 h.2.1)]
      · rw [if_neg (by rw [toList_data, toList_data]; exact fun h => e1 (bytes_ext h)), if_neg (fun h => e1 h.1)]
    by_cases e : a[i].f0 = b[i].f0 ∧ a[i].f2 = b[i].f2 ∧ a[i].f1.length = b[i].f1.length
    · have hj : ∀ k, carlingref04_Same.j1 (k + 1) a b (i : Int) false = carlingref04_Same.l1 k a b (i : Int) ((0 : Nat) : Int) := by
        intro k
        simp only [carlingref04_Same.j1, Bool.false_eq_true, if_false]; rfl
      obtain ⟨s1, s2⟩ := same_l1 a b i hi hib ha e.2.2 (hp _ (List.getElem_mem hi)) _ 0 (Nat.zero_le _) rfl
      by_cases e4 : a[i].f1 = b[i].f1
      · refine ⟨r, Ev.step (fun k => by rw [hs k, if_pos e]) (Ev.step hj (s1 (by simpa using e4) r hr)), ?_⟩
        rw [hri]
        have hx : a[i] = b[i] := by
          obtain ⟨x0, x1, x2⟩ : ∃ x0 x1 x2, a[i] = ⟨x0, x1, x2⟩ := ⟨_, _, _, rfl⟩
          cases h1 : a[i] with
          | mk p q s =>
            cases h2 : b[i] with
            | mk p' q' s' =>
              rw [h1, h2] at e e4
              obtain ⟨e, e', _⟩ := e
              simp only at e e' e4
              rw [e, e', e4]
        rw [hx]; exact ⟨fun h => by rw [h], fun h => by injection h⟩
      · refine ⟨false, Ev.step (fun k => by rw [hs k, if_pos e]) (Ev.step hj (s2 (by simpa using e4))), ?_⟩
        constructor
        · intro h; cases h
        · intro h; injection h with h _; rw [h] at e4; exact absurd rfl e4
    · refine ⟨false, Ev.step (fun k => by rw [hs k, if_neg e]) (same_j1_true a b _), ?_⟩
      constructor
      · intro h; cases h
      · intro h; injection h with h _; rw [h] at e; exact absurd ⟨rfl, rfl, rfl⟩ e
/-- may it be gone through -/
def Sane (l : List S34) : Prop := l.length ≤ 9223372036854775807 ∧ ∀ x ∈ l, x.f1.length ≤ 9223372036854775807
theorem same_ev (a b : List S34) (ha : Sane a) : ∃ r, Ev (fun k => carlingref04_Same.f k a b) r ∧ (r = true ↔ a = b) := by
  by_cases h : (a.length : Int) = (b.length : Int)
  · obtain ⟨r, h1, h2⟩ := same_l0 a b (by omega) ha.1 ha.2 _ 0 (Nat.zero_le _) rfl
    refine ⟨r, Ev.congr (fun k => by unfold carlingref04_Same.f; rw [if_pos h]; rfl) h1, ?_⟩
    rw [h2]; simp
  · refine ⟨false, Ev.congr (f := fun _ => some false) (fun k => by unfold carlingref04_Same.f; rw [if_neg h]) (Ev.now _), ?_⟩
    constructor
    · intro h; cases h
    · intro e; rw [e] at h; exact absurd rfl h
theorem same_true (a b : List S34) (ha : Sane a) (h : a = b) : Ev (fun k => carlingref04_Same.f k a b) true := by
  obtain ⟨r, h1, h2⟩ := same_ev a b ha
  rw [h2.2 h] at h1; exact h1
theorem light_sane {l : List S34} (h : lightB l = true) : Sane l := by
  obtain ⟨h1, h2⟩ := lightB_says h
  exact ⟨by omega, fun x hx => by have := h2 x hx; omega⟩

/-! ### found -/
def foundP (l : List S34) (nm : ByteArray) : ByteArray × List S46 × Bool × Bool := match l.find? fun x => decide (x.f0 = nm) with
  | some x => (x.f0, x.f1, x.f2, true)
  | none => (⟨#[]⟩, [], false, false)
theorem find_l0 (l : List S34) (nm : ByteArray) (hl : l.length ≤ 9223372036854775807) (hp : ∀ x ∈ l, x.f1.length ≤ 1000000000) (d : Nat) : ∀ i, i ≤ l.length → l.length - i = d → Ev (fun k => face_Find.l0 k nm l (l.length : Int) (i : Int)) (foundP (l.drop i) nm) := by
  induction d with
  | zero =>
    intro i h0 h1
    rw [List.drop_eq_nil_of_le (by omega)]
    refine Ev.step (f := fun _ => some (foundP [] nm)) (fun k => ?_) (Ev.now _)
    simp only [face_Find.l0]
    rw [if_neg (by omega)]; rfl
  | succ d ih =>
    intro i h0 h1
    have hlt : i < l.length := by omega
    have hn := ih (i + 1) (by omega) (by omega)
    have hx := hp _ (List.getElem_mem hlt)
    rw [List.drop_eq_getElem_cons hlt]
    by_cases e : l[i].f0 = nm
    · have hf : foundP (l[i] :: l.drop (i + 1)) nm = (l[i].f0, l[i].f1, l[i].f2, true) := by unfold foundP; rw [List.find?_cons, decide_eq_true e]
      rw [hf]
      refine Ev.step (f := fun _ => some (l[i].f0, l[i].f1, l[i].f2, true)) (fun k => ?_) (Ev.now _)
      simp only [face_Find.l0]
      rw [if_pos (by omega), if_pos (by omega), if_pos (by omega), rd34 l i hlt, if_pos (by rw [e])]
      simp only [Option.bind_some, List.length_nil, List.nil_append, Nat.zero_add]
      rw [if_pos (by omega)]
    · have hf : foundP (l[i] :: l.drop (i + 1)) nm = foundP (l.drop (i + 1)) nm := by unfold foundP; rw [List.find?_cons, decide_eq_false e]
      rw [hf]
      refine Ev.step (fun k => ?_) hn
      simp only [face_Find.l0]
      rw [if_pos (by omega), if_pos (by omega), if_pos (by omega), rd34 l i hlt, if_neg (by rw [toList_data, toList_data]; exact fun h => e (bytes_ext h)), wrap_nat hlt hl]
theorem find_ev (l : List S34) (nm : ByteArray) (hl : l.length ≤ 9223372036854775807) (hp : ∀ x ∈ l, x.f1.length ≤ 1000000000) : Ev (fun k => face_Find.f k l nm) (foundP l nm) := by
  have := find_l0 l nm hl hp _ 0 (Nat.zero_le _) rfl
  exact this
end Go.Proofs.YtappdmioncdefaaDoor.Q
