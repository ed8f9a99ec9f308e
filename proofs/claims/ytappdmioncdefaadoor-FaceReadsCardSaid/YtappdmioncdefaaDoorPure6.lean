/- The document's reading of a text: plain functions; that it is the program's. -/
import Derived.Test.YtappdmioncdefaaDoorPure5
import Derived.Test.YtappdmioncdefaaDoorQCarlingref04Read
namespace Go.Proofs.YtappdmioncdefaaDoor.Q
open Go.RowKit Go.Proofs.YtappdmioncdefaaDoorW.PrintWords Go.Proofs.YtappdmioncdefaaDoorW.PrintLast Go.Proofs.YtappdmioncdefaaDoorW.PrintMore

/-! ### parts between bytes -/
theorem has_or (c : UInt8) (l : List UInt8) : (∀ x ∈ l, x ≠ c) ∨ ∃ a b, l = a ++ c :: b ∧ ∀ x ∈ a, x ≠ c := by
  induction l with
  | nil => exact .inl fun x hx => by cases hx
  | cons y l ih =>
    by_cases e : y = c
    · exact .inr ⟨[], l, by rw [e]; rfl, fun x hx => by cases hx⟩
    · rcases ih with ih | ⟨a, b, rfl, h⟩
      · exact .inl fun x hx => by
          rcases List.mem_cons.1 hx with rfl | hx
          · exact e
          · exact ih x hx
      · exact .inr ⟨y :: a, b, rfl, fun x hx => by
          rcases List.mem_cons.1 hx with rfl | hx
          · exact e
          · exact h x hx⟩
theorem split_size (c : UInt8) (n : Nat) : ∀ l : List UInt8, l.length ≤ n → 1 ≤ (Lib.split l [c]).length ∧ (Lib.split l [c]).length ≤ l.length + 1 ∧ ∀ p ∈ Lib.split l [c], p.length ≤ l.length := by
  induction n with
  | zero =>
    intro l h
    obtain rfl : l = [] := List.length_eq_zero_iff.1 (by omega)
    rw [split_one c [] (fun x hx => by cases hx)]
    exact ⟨Nat.le_refl _, Nat.le_refl _, fun p hp => by rw [List.mem_singleton.1 hp]; exact Nat.le_refl _⟩
  | succ n ih =>
    intro l h
    rcases has_or c l with h1 | ⟨a, b, rfl, h1⟩
    · rw [split_one c l h1]
      exact ⟨Nat.le_refl _, by simp, fun p hp => by rw [List.mem_singleton.1 hp]; exact Nat.le_refl _⟩
    · rw [split_more c a b h1]
      simp only [List.length_append, List.length_cons] at h ⊢
      obtain ⟨i1, i2, i3⟩ := ih b (by omega)
      refine ⟨by omega, by omega, fun p hp => ?_⟩
      rcases List.mem_cons.1 hp with rfl | hp
      · omega
      · have := i3 p hp; omega
def cutP (c : UInt8) (s : ByteArray) : List ByteArray := (Lib.split s.data.toList [c]).map bytesOfL
theorem cutP_size (c : UInt8) (s : ByteArray) : 1 ≤ (cutP c s).length ∧ (cutP c s).length ≤ s.size + 1 ∧ ∀ p ∈ cutP c s, p.size ≤ s.size := by
  obtain ⟨h1, h2, h3⟩ := split_size c _ s.data.toList (Nat.le_refl _)
  rw [data_len] at h2 h3
  unfold cutP
  rw [List.length_map]
  refine ⟨h1, h2, fun p hp => ?_⟩
  obtain ⟨q, hq, rfl⟩ := List.mem_map.1 hp
  rw [bytesOfL_size]
  exact h3 q hq
theorem extract_L (s : ByteArray) (a b : Nat) : s.extract a b = bytesOfL ((s.data.toList.drop a).take (b - a)) := by
  apply bytes_ext
  rw [bytesOfL_data, ByteArray.data_extract, Array.toList_extract]
theorem rcut_l0 (s : ByteArray) (hs : s.size ≤ 1000000) (c : UInt8) (d : Nat) : ∀ (f i : Nat) (acc : List ByteArray), i ≤ s.size → f ≤ i → acc.length ≤ f → s.size - i = d → (∀ x ∈ (s.data.toList.drop f).take (i - f), x ≠ c) →
    Ev (fun k => carlingref04_cut.l0 k s (c.toNat : Int) acc (f : Int) (i : Int)) (acc ++ (Lib.split (s.data.toList.drop f) [c]).map bytesOfL) := by
  have hlen : s.data.toList.length = s.size := data_len s
  induction d with
  | zero =>
    intro f i acc h0 h1 ha h2 h3
    obtain rfl : i = s.size := by omega
    have ht : (s.data.toList.drop f).take (s.size - f) = s.data.toList.drop f := List.take_of_length_le (by rw [List.length_drop]; omega)
    rw [ht] at h3
    rw [split_one c _ h3]
    have hend : Ev (fun k => carlingref04_cut.l0 k s (c.toNat : Int) (acc ++ [bytesOfL (s.data.toList.drop f)]) ((s.size + 1 : Nat) : Int) ((s.size + 1 : Nat) : Int)) (acc ++ [bytesOfL (s.data.toList.drop f)]) := by
      refine Ev.step (f := fun _ => some (acc ++ [bytesOfL (s.data.toList.drop f)])) (fun k => ?_) (Ev.now _)
      simp only [carlingref04_cut.l0]
      rw [if_neg (by omega)]
    refine Ev.step (fun k => ?_) hend
    simp only [carlingref04_cut.l0]
    rw [if_pos (by omega), if_pos trivial, if_pos (by omega), if_pos (by omega), if_pos (by omega), wrap_nat' (n := s.size + 1) (by omega) (by omega), extract_L]
    have e1 : ((f : Int)).toNat = f := by omega
    have e2 : ((s.size : Int)).toNat = s.size := by omega
    rw [e1, e2, ht]
  | succ d ih =>
    intro f i acc h0 h1 ha h2 h3
    have hlt : i < s.size := by omega
    have hb := bt_nat s i hlt
    have hdr := drop_at s i hlt
    obtain ⟨y, hy⟩ : ∃ y, y = s.data.toList[i]'(by simpa using hlt) := ⟨_, rfl⟩
    rw [← hy] at hb hdr
    have hw : s.data.toList.drop f = (s.data.toList.drop f).take (i - f) ++ y :: s.data.toList.drop (i + 1) := by
      rw [← hdr]
      have := (List.take_append_drop (i - f) (s.data.toList.drop f)).symm
      rw [List.drop_drop, show f + (i - f) = i by omega] at this
      exact this
    by_cases e : y = c
    · subst e
      have hspl : Lib.split (s.data.toList.drop f) [y] = (s.data.toList.drop f).take (i - f) :: Lib.split (s.data.toList.drop (i + 1)) [y] := by
        conv => lhs; rw [hw]
        exact split_more y _ _ h3
      rw [hspl]
      have hn := ih (i + 1) (i + 1) (acc ++ [bytesOfL ((s.data.toList.drop f).take (i - f))]) (by omega) (Nat.le_refl _) (by simp; omega) (by omega) (fun x hx => by simp at hx)
      rw [List.append_assoc] at hn
      refine Ev.step (fun k => ?_) hn
      simp only [carlingref04_cut.l0]
      rw [if_pos (by omega), if_neg (by omega), if_pos (by omega), if_pos (by omega), hb, if_pos rfl, if_pos (by omega), if_pos (by omega), if_pos (by omega), wrap_nat' hlt (by omega), extract_L]
      have e1 : ((f : Int)).toNat = f := by omega
      have e2 : ((i : Int)).toNat = i := by omega
      rw [e1, e2]
    · refine Ev.step (fun k => ?_) (ih f (i + 1) acc (by omega) (by omega) ha (by omega) ?_)
      · simp only [carlingref04_cut.l0]
        have hne : ¬ ((y.toNat : Int) = (c.toNat : Int)) := fun h => e (UInt8.toNat_inj.1 (by omega))
        rw [if_pos (by omega), if_neg (by omega), if_pos (by omega), if_pos (by omega), hb, if_neg hne, wrap_nat' hlt (by omega)]
      · intro x hx
        have hs1 : (s.data.toList.drop f).take (i + 1 - f) = (s.data.toList.drop f).take (i - f) ++ [y] := by
          have hl : ((s.data.toList.drop f).take (i - f)).length = i - f := by rw [List.length_take, List.length_drop]; omega
          conv => lhs; rw [hw]
          rw [List.take_append, hl, show i + 1 - f - (i - f) = 1 by omega]
          rw [List.take_of_length_le (by omega)]
          rfl
        rw [hs1] at hx
        rcases List.mem_append.1 hx with hx | hx
        · exact h3 x hx
        · rw [List.mem_singleton.1 hx]; exact e
theorem rcut_ev (s : ByteArray) (hs : s.size ≤ 1000000) (c : UInt8) : Ev (fun k => carlingref04_cut.f k s (c.toNat : Int)) (cutP c s) := by
  have h := rcut_l0 s hs c _ 0 0 [] (Nat.zero_le _) (Nat.le_refl _) (Nat.le_refl _) rfl (fun x hx => by simp at hx)
  rw [List.drop_zero, List.nil_append] at h
  exact h

/-! ### a number, a type -/
theorem rnum_l0 (s : ByteArray) (hs : s.size ≤ 1000000) (a b : Int) (d : Nat) : ∀ (i : Nat) (acc : Int), i ≤ s.size → s.size - i = d → ∃ r, Ev (fun k => carlingref03_Number.l0 k s a b acc (i : Int)) r := by
  induction d with
  | zero =>
    intro i acc h0 h1
    refine ⟨(acc, if acc ≥ a then decide (acc ≤ b) else false), Ev.step (f := fun _ => some (acc, if acc ≥ a then decide (acc ≤ b) else false)) (fun k => ?_) (Ev.now _)⟩
    simp only [carlingref03_Number.l0]
    rw [if_neg (by omega)]
    by_cases h : acc ≥ a
    · rw [if_pos h, if_pos h]
    · rw [if_neg h, if_neg h]
  | succ d ih =>
    intro i acc h0 h1
    have hlt : i < s.size := by omega
    by_cases a1 : bt s (i : Int) < 48
    · exact ⟨(0, false), Ev.step (f := fun _ => some (0, false)) (fun k => by simp only [carlingref03_Number.l0]; rw [if_pos (by omega), if_pos (by omega), if_pos a1]) (Ev.now _)⟩
    · by_cases a2 : bt s (i : Int) > 57
      · exact ⟨(0, false), Ev.step (f := fun _ => some (0, false)) (fun k => by simp only [carlingref03_Number.l0]; rw [if_pos (by omega), if_pos (by omega), if_neg a1, if_pos a2]) (Ev.now _)⟩
      · obtain ⟨r, hr⟩ := ih (i + 1) (IntKind.u64.wrap ((IntKind.u64.wrap (acc * 10)) + (((bt s (i : Int)) - 48) % 256))) (by omega) (by omega)
        exact ⟨r, Ev.step (fun k => by simp only [carlingref03_Number.l0]; rw [if_pos (by omega), if_pos (by omega), if_neg a1, if_neg a2, wrap_nat' hlt (by omega)]) hr⟩
theorem rnum_j0 (s : ByteArray) (hs : s.size ≤ 1000000) (a b : Int) (t : Bool) : ∃ r, Ev (fun k => carlingref03_Number.j0 k s a b t) r := by
  cases t with
  | true => exact ⟨(0, false), Ev.step (f := fun _ => some (0, false)) (fun k => by simp only [carlingref03_Number.j0, if_true]) (Ev.now _)⟩
  | false =>
    obtain ⟨r, hr⟩ := rnum_l0 s hs a b _ 0 0 (Nat.zero_le _) rfl
    exact ⟨r, Ev.step (fun k => by simp only [carlingref03_Number.j0, Bool.false_eq_true, if_false]; rfl) hr⟩
theorem rnum_ev (s : ByteArray) (hs : s.size ≤ 1000000) (a b : Int) : ∃ r, Ev (fun k => carlingref03_Number.f k s a b) r := by
  by_cases h0 : (s.size : Int) = 0
  · obtain ⟨r, hr⟩ := rnum_j0 s hs a b true
    exact ⟨r, Ev.congr (fun k => by unfold carlingref03_Number.f; rw [if_pos h0]) hr⟩
  · by_cases h1 : (s.size : Int) > 10
    · obtain ⟨r, hr⟩ := rnum_j0 s hs a b true
      exact ⟨r, Ev.congr (fun k => by unfold carlingref03_Number.f; rw [if_neg h0, if_pos h1]) hr⟩
    · by_cases h2 : (s.size : Int) > 1
      · obtain ⟨r, hr⟩ := rnum_j0 s hs a b (bt s 0 == 48)
        exact ⟨r, Ev.congr (fun k => by unfold carlingref03_Number.f; rw [if_neg h0, if_neg h1, if_pos h2, if_pos (by omega)]) hr⟩
      · obtain ⟨r, hr⟩ := rnum_j0 s hs a b false
        exact ⟨r, Ev.congr (fun k => by unfold carlingref03_Number.f; rw [if_neg h0, if_neg h1, if_neg h2]) hr⟩
theorem rtyp_some (s : ByteArray) (hs : s.size ≤ 1000000) : ∃ r, Ev (fun k => carlingref04_typ.f k s) r := by
  have hz : (s.extract 3 s.size).size ≤ 1000000 := by simp; omega
  obtain ⟨r, hr⟩ := rnum_ev (s.extract 3 s.size) hz 1 16
  by_cases h1 : (s.size : Int) > 2
  · by_cases h2 : (s.size : Int) > 3
    · exact ⟨_, Ev.congr (fun k => by unfold carlingref04_typ.f; rw [if_pos h1, if_pos (by omega), if_pos (by omega), if_pos h2]) (Ev.bind hr (Ev.now _))⟩
    · exact ⟨_, Ev.congr (fun k => by unfold carlingref04_typ.f; rw [if_pos h1, if_pos (by omega), if_pos (by omega), if_neg h2]) (Ev.now _)⟩
  · exact ⟨_, Ev.congr (fun k => by unfold carlingref04_typ.f; rw [if_neg h1, if_neg (by omega)]) (Ev.now _)⟩
theorem Ev.one {α : Type} {g : Nat → Option α} {a b : α} (h : Ev g a) (h' : Ev g b) : a = b := by
  obtain ⟨K, hK⟩ := h
  obtain ⟨L, hL⟩ := h'
  have := (hK (K + L) (by omega)).symm.trans (hL (K + L) (by omega))
  exact Option.some.inj this
open Classical in
/-- the type of a word, as the document takes it -/
noncomputable def typP (s : ByteArray) : S46 := if h : s.size ≤ 1000000 then ⟨(rtyp_some s h).choose.1, (rtyp_some s h).choose.2⟩ else ⟨false, 0⟩
theorem rtyp_ev (s : ByteArray) (hs : s.size ≤ 1000000) : Ev (fun k => carlingref04_typ.f k s) ((typP s).f0, (typP s).f1) := by
  unfold typP
  rw [dif_pos hs]
  exact (rtyp_some s hs).choose_spec
theorem rtyp_all : ∀ (b : Bool) (n : Fin 17), carlingref04_typ.f 20 (bytesOfL (typeT ⟨b, (n.val : Int)⟩)) = some (b, (n.val : Int)) := by decide +kernel
theorem typP_back (t : S46) (h0 : 0 ≤ t.f1) (h1 : t.f1 ≤ 16) : typP (bytesOfL (typeT t)) = t := by
  have hb := (typeT_bytes t h0 h1).1
  have hz : (bytesOfL (typeT t)).size ≤ 1000000 := by rw [bytesOfL_size]; omega
  have he := rtyp_ev _ hz
  obtain ⟨b, i⟩ := t
  obtain ⟨m, rfl⟩ : ∃ m : Nat, i = m := ⟨i.toNat, (Int.toNat_of_nonneg h0).symm⟩
  have h := Ev.of (fun k => carlingref04_typ.mono _ k) (rtyp_all b ⟨m, by simp only at h1; omega⟩)
  have := Ev.one he h
  cases hx : typP (bytesOfL (typeT ⟨b, (m : Int)⟩)) with
  | mk p q =>
    rw [hx] at this
    simp only [Prod.mk.injEq] at this
    rw [this.1, this.2]

/-! ### lines -/
def sigP0 (p : List ByteArray) (ty : ByteArray → S46) : Option S34 := if p.length < 3 then none else some ⟨rdOf ByteArray.empty p 0, ((p.drop 1).take (p.length - 3)).map ty, (rdOf ByteArray.empty p ((p.length - 1 : Nat) : Int)).data.toList == secB⟩
noncomputable def sigP (s : ByteArray) : Option S34 := sigP0 (cutP 32 s) typP
noncomputable def sigsP : List ByteArray → Option (List S34)
  | [] => some []
  | s :: r => match sigP s with
    | none => none
    | some x => (sigsP r).map (x :: ·)
noncomputable def rreadP (s : ByteArray) : List S34 × Int := match sigsP ((cutP 10 s).dropLast) with
  | none => ([], 6)
  | some o => checkP s o
def Fits (n : Nat) (x : S34) : Prop := x.f0.size ≤ n ∧ x.f1.length ≤ n
theorem sigP_fits {s : ByteArray} {x : S34} (h : sigP s = some x) : Fits s.size x := by
  obtain ⟨h1, h2, h3⟩ := cutP_size 32 s
  unfold sigP sigP0 at h
  split at h
  · cases h
  · injection h with h
    subst h
    refine ⟨rdOf_zero _ _ h3, ?_⟩
    show (List.map _ _).length ≤ _
    rw [List.length_map, List.length_take]
    omega
theorem wrap_small (i : Int) (h0 : -9223372036854775808 ≤ i) (h1 : i ≤ 9223372036854775807) : wrap64 i = i := by unfold wrap64; omega
theorem rread_l1 (s : ByteArray) (ls : List ByteArray) (out : List S34) (j : Nat) (p : List ByteArray) (hp : 3 ≤ p.length) (hpl : p.length ≤ 1000000) (hps : ∀ x ∈ p, x.size ≤ 1000000) (nm : ByteArray) (sec : Bool) (hout : out.length ≤ 1000000) (hj : j ≤ 1000000) (r : List S34 × Int) (d : Nat) : ∀ (i : Nat) (acc : List S46), i ≤ p.length - 2 → acc.length ≤ i → p.length - 2 - i = d →
    Ev (fun k => carlingref04_Read.l0 k s ls (out ++ [(⟨nm, acc ++ ((p.drop i).take (p.length - 2 - i)).map typP, sec⟩ : S34)]) ((j + 1 : Nat) : Int)) r → Ev (fun k => carlingref04_Read.l1 k s ls out (j : Int) p (i : Int) nm acc sec) r := by
  have hw2 : wrap64 ((p.length : Int) - 2) = ((p.length - 2 : Nat) : Int) := by rw [wrap_small _ (by omega) (by omega)]; omega
  induction d with
  | zero =>
    intro i acc h0 ha h1 he
    rw [h1, List.take_zero, List.map_nil, List.append_nil] at he
    refine Ev.step (fun k => ?_) he
    simp only [carlingref04_Read.l1]
    rw [hw2, if_neg (by omega), if_pos (by omega), wrap_nat' (n := 1000001) (by omega) (by omega)]
  | succ d ih =>
    intro i acc h0 ha h1 he
    have hlt : i < p.length := by omega
    have ht : (p.drop i).take (p.length - 2 - i) = p[i] :: (p.drop (i + 1)).take (p.length - 2 - (i + 1)) := by
      rw [List.drop_eq_getElem_cons hlt, h1, List.take_succ_cons, show p.length - 2 - (i + 1) = d by omega]
    rw [ht, List.map_cons] at he
    have hn := ih (i + 1) (acc ++ [typP p[i]]) (by omega) (by simp; omega) (by omega) (by simpa using he)
    have hty := rtyp_ev p[i] (hps _ (List.getElem_mem hlt))
    refine Ev.step (fun k => by
      simp only [carlingref04_Read.l1]
      rw [hw2, if_pos (by omega), if_pos (by omega), if_pos (by omega), rdOf_at p i hlt]) (Ev.bind hty ?_)
    refine Ev.congr (fun k => ?_) hn
    rw [if_pos (by omega), wrap_nat' hlt (by omega)]
theorem rread_l0 (s : ByteArray) (ls : List ByteArray) (hls : 1 ≤ ls.length) (hll : ls.length ≤ 5001) (hsz : ∀ x ∈ ls, x.size ≤ 5000) (d : Nat) : ∀ (j : Nat) (out : List S34), j ≤ ls.length - 1 → out.length = j → (∀ x ∈ out, Fits 5000 x) → ls.length - 1 - j = d →
    Ev (fun k => carlingref04_Read.l0 k s ls out (j : Int)) (match sigsP ((ls.drop j).take (ls.length - 1 - j)) with | none => ([], 6) | some o => checkP s (out ++ o)) := by
  have hw1 : wrap64 ((ls.length : Int) - 1) = ((ls.length - 1 : Nat) : Int) := by rw [wrap_small _ (by omega) (by omega)]; omega
  induction d with
  | zero =>
    intro j out h0 ho hf h1
    rw [h1, List.take_zero]
    simp only [sigsP, List.append_nil]
    have hT := rtext_ev out ⟨by omega, fun x hx => by have := (hf x hx).1; omega⟩ (fun x hx => by have := (hf x hx).2; omega)
    refine Ev.step (fun k => by
      simp only [carlingref04_Read.l0]
      rw [hw1, if_neg (by omega)]) (Ev.bind hT ?_)
    by_cases h2 : (textP out).2 = 0
    · by_cases h3 : (textP out).1 = s
      · have hc : checkP s out = (out, 0) := by unfold checkP; rw [if_pos ⟨h2, h3⟩]
        rw [hc]
        exact Ev.congr (f := fun _ => some (out, 0)) (fun k => by rw [if_pos h2, if_pos (by rw [h3])]) (Ev.now _)
      · have hc : checkP s out = ([], 6) := by unfold checkP; rw [if_neg (fun h => h3 h.2)]
        rw [hc]
        exact Ev.congr (f := fun _ => some ([], 6)) (fun k => by rw [if_pos h2, if_neg (by rw [toList_data, toList_data]; exact fun h => h3 (bytes_ext h))]) (Ev.now _)
    · have hc : checkP s out = ([], 6) := by unfold checkP; rw [if_neg (fun h => h2 h.1)]
      rw [hc]
      exact Ev.congr (f := fun _ => some ([], 6)) (fun k => by rw [if_neg h2]) (Ev.now _)
  | succ d ih =>
    intro j out h0 ho hf h1
    have hlt : j < ls.length := by omega
    have ht : (ls.drop j).take (ls.length - 1 - j) = ls[j] :: (ls.drop (j + 1)).take (ls.length - 1 - (j + 1)) := by
      rw [List.drop_eq_getElem_cons hlt, h1, List.take_succ_cons, show ls.length - 1 - (j + 1) = d by omega]
    rw [ht]
    have hsj := hsz _ (List.getElem_mem hlt)
    have hc := rcut_ev ls[j] (by omega) 32
    have e32 : (((32 : UInt8).toNat : Nat) : Int) = 32 := rfl
    rw [e32] at hc
    obtain ⟨p, hp⟩ : ∃ p, p = cutP 32 ls[j] := ⟨_, rfl⟩
    obtain ⟨c1, c2, c3⟩ := cutP_size 32 ls[j]
    have hsig : sigP ls[j] = sigP0 p typP := by rw [hp]; rfl
    rw [← hp] at hc c1 c2 c3
    refine Ev.step (fun k => by
      simp only [carlingref04_Read.l0]
      rw [hw1, if_pos (by omega), if_pos (by omega), if_pos (by omega), rdOf_at ls j hlt]) (Ev.bind hc ?_)
    by_cases h3 : p.length < 3
    · have hn : sigP0 p typP = none := by unfold sigP0; rw [if_pos h3]
      simp only [sigsP]
      rw [hsig, hn]
      exact Ev.congr (f := fun _ => some ([], 6)) (fun k => by rw [if_pos (by omega)]) (Ev.now _)
    · obtain ⟨x, hx⟩ : ∃ x, sigP0 p typP = some x := ⟨_, by unfold sigP0; rw [if_neg h3]⟩
      have hfx := sigP_fits (hsig.trans hx)
      have hn := ih (j + 1) (out ++ [x]) (by omega) (by simp [ho]) (fun y hy => by
        rcases List.mem_append.1 hy with hy | hy
        · exact hf y hy
        · rw [List.mem_singleton.1 hy]; exact ⟨by have := hfx.1; omega, by have := hfx.2; omega⟩) (by omega)
      have hres : (match sigsP (ls[j] :: (ls.drop (j + 1)).take (ls.length - 1 - (j + 1))) with | none => ([], 6) | some o => checkP s (out ++ o)) = (match sigsP ((ls.drop (j + 1)).take (ls.length - 1 - (j + 1))) with | none => ([], 6) | some o => checkP s ((out ++ [x]) ++ o)) := by
        simp only [sigsP]
        rw [hsig, hx]
        cases sigsP ((ls.drop (j + 1)).take (ls.length - 1 - (j + 1))) <;> simp
      rw [hres]
      have hwp : wrap64 ((p.length : Int) - 1) = ((p.length - 1 : Nat) : Int) := by rw [wrap_small _ (by omega) (by omega)]; omega
      refine Ev.congr (fun k => by rw [if_neg (by omega), if_pos (by omega), hwp, if_pos (by omega), if_pos (by omega)]; rfl) (rread_l1 s ls out j p (by omega) (by omega) (fun y hy => by have := c3 y hy; omega) _ _ (by omega) (by omega) _ _ 1 [] (by omega) (Nat.zero_le _) rfl ?_)
      have hxx : x = ⟨rdOf ByteArray.empty p 0, [] ++ ((p.drop 1).take (p.length - 2 - 1)).map typP, (rdOf ByteArray.empty p ((p.length - 1 : Nat) : Int)).toList == ([115, 101, 99] : List UInt8)⟩ := by
        unfold sigP0 at hx
        rw [if_neg h3] at hx
        rw [← Option.some.inj hx, toList_data, List.nil_append, show p.length - 2 - 1 = p.length - 3 by omega]
        rfl
      rw [← hxx]
      exact hn
theorem rread_ev (s : ByteArray) (hs : s.size ≤ 5000) : Ev (fun k => carlingref04_Read.f k s) (rreadP s) := by
  obtain ⟨c1, c2, c3⟩ := cutP_size 10 s
  have hc := rcut_ev s (by omega) 10
  have e10 : (((10 : UInt8).toNat : Nat) : Int) = 10 := rfl
  rw [e10] at hc
  have h := rread_l0 s (cutP 10 s) c1 (by omega) (fun x hx => by have := c3 x hx; omega) _ 0 [] (Nat.zero_le _) rfl (fun x hx => by cases hx) rfl
  refine Ev.congr (fun k => by unfold carlingref04_Read.f; rfl) (Ev.bind hc ?_)
  unfold rreadP
  rw [List.drop_zero, Nat.sub_zero, ← List.dropLast_eq_take] at h
  simpa using h

/-! ### what is told is read as it was -/
theorem split_params2 (ps : List S46) (r : List UInt8) (hp : typesB ps = true) : ∀ (a : List UInt8), (∀ x ∈ a, x ≠ 32) → Lib.split (a ++ paramsL ps ++ 32 :: r) [32] = a :: ps.map typeT ++ Lib.split r [32] := by
  induction ps with
  | nil => intro a h; show Lib.split (a ++ [] ++ 32 :: r) [32] = a :: Lib.split r [32]; rw [List.append_nil]; exact split_more 32 a r h
  | cons t ps ih =>
    intro a h
    have ht := typesB_all hp t (List.mem_cons_self ..)
    have hb := typeT_bytes t ht.1 ht.2
    have hr : typesB ps = true := by
      unfold typesB at hp ⊢
      rw [List.all_cons, Bool.and_eq_true] at hp
      exact hp.2
    have e : a ++ paramsL (t :: ps) ++ 32 :: r = a ++ 32 :: (typeT t ++ paramsL ps ++ 32 :: r) := by
      show a ++ (32 :: (typeT t ++ paramsL ps)) ++ 32 :: r = _
      simp
    rw [e, split_more 32 a _ h, ih hr (typeT t) (fun x hx => (hb.2 x hx).1)]
    rfl
theorem rdOf_last2 (a : ByteArray) (l : List ByteArray) (u v : ByteArray) : rdOf ByteArray.empty (a :: (l ++ [u, v])) ((l.length + 2 : Nat) : Int) = v := by
  unfold rdOf
  rw [show (((l.length + 2 : Nat) : Int)).toNat = l.length + 1 + 1 by omega]
  simp
theorem sigP_back {x : S34} (h : rightB x = true) : sigP (bytesOfL (bodyL x)) = some x := by
  obtain ⟨h1, h2⟩ := rightB_parts h
  obtain ⟨h3, h4⟩ := rightB_name h
  have h6 := labT_bytes x.f2
  have e : bodyL x = x.f0.data.toList ++ paramsL x.f1 ++ 32 :: ([58] ++ 32 :: typeT ⟨x.f2, 0⟩) := by
    unfold bodyL headL
    simp
  have hs : Lib.split (bodyL x) [32] = x.f0.data.toList :: x.f1.map typeT ++ [[58], typeT ⟨x.f2, 0⟩] := by
    rw [e, split_params2 x.f1 _ h2 _ (fun c hc => (h4 c hc).1), split_more 32 [58] _ (by decide), split_one 32 _ (fun c hc => (h6.2 c hc).1)]
  have hc : cutP 32 (bytesOfL (bodyL x)) = x.f0 :: ((x.f1.map typeT).map bytesOfL ++ [bytesOfL [58], bytesOfL (typeT ⟨x.f2, 0⟩)]) := by
    unfold cutP
    rw [bytesOfL_data, hs]
    simp [bytesOfL_eq]
  have hlen : (cutP 32 (bytesOfL (bodyL x))).length = x.f1.length + 3 := by rw [hc]; simp
  unfold sigP sigP0
  rw [hlen, if_neg (by omega), hc]
  have e1 : rdOf ByteArray.empty (x.f0 :: ((x.f1.map typeT).map bytesOfL ++ [bytesOfL [58], bytesOfL (typeT ⟨x.f2, 0⟩)])) 0 = x.f0 := rfl
  have e2 : rdOf ByteArray.empty (x.f0 :: ((x.f1.map typeT).map bytesOfL ++ [bytesOfL [58], bytesOfL (typeT ⟨x.f2, 0⟩)])) ((x.f1.length + 3 - 1 : Nat) : Int) = bytesOfL (typeT ⟨x.f2, 0⟩) := by
    have := rdOf_last2 x.f0 ((x.f1.map typeT).map bytesOfL) (bytesOfL [58]) (bytesOfL (typeT ⟨x.f2, 0⟩))
    rw [List.length_map, List.length_map] at this
    rw [show x.f1.length + 3 - 1 = x.f1.length + 2 by omega]
    exact this
  have e3 : ((x.f0 :: ((x.f1.map typeT).map bytesOfL ++ [bytesOfL [58], bytesOfL (typeT ⟨x.f2, 0⟩)])).drop 1).take (x.f1.length + 3 - 3) = (x.f1.map typeT).map bytesOfL := by
    rw [List.drop_succ_cons, List.drop_zero, show x.f1.length + 3 - 3 = ((x.f1.map typeT).map bytesOfL).length by simp]
    exact List.take_left ..
  have e4 : ((x.f1.map typeT).map bytesOfL).map typP = x.f1 := by
    have : ∀ l : List S46, (∀ t ∈ l, 0 ≤ t.f1 ∧ t.f1 ≤ 16) → ((l.map typeT).map bytesOfL).map typP = l := by
      intro l hl
      induction l with
      | nil => rfl
      | cons t l ih =>
        have ht := hl t (List.mem_cons_self ..)
        simp only [List.map_cons]
        rw [typP_back t ht.1 ht.2, ih (fun t ht => hl t (List.mem_cons_of_mem _ ht))]
    exact this _ (typesB_all h2)
  rw [e1, e2, e3, e4, bytesOfL_data]
  have hsec : (typeT ⟨x.f2, 0⟩ == secB) = x.f2 := by cases x.f2 <;> rfl
  rw [hsec]
theorem cut_text (l : List S34) (h : l.all rightB = true) : Lib.split (textL l) [10] = l.map bodyL ++ [[]] := by
  induction l with
  | nil => exact split_one 10 [] (fun x hx => by cases hx)
  | cons x l ih =>
    rw [List.all_cons, Bool.and_eq_true] at h
    have e : textL (x :: l) = bodyL x ++ 10 :: textL l := by
      show lineL x ++ textL l = _
      rw [lineL_body]; simp
    rw [e, split_more 10 _ _ (bodyL_bytes h.1), ih h.2]
    rfl
theorem sigsP_back (l : List S34) (h : l.all rightB = true) : sigsP ((l.map bodyL).map bytesOfL) = some l := by
  induction l with
  | nil => rfl
  | cons x l ih =>
    rw [List.all_cons, Bool.and_eq_true] at h
    simp only [List.map_cons, sigsP]
    rw [sigP_back h.1, ih h.2]
    rfl
theorem rreadP_back {l : List S34} {s : ByteArray} (h : textP l = (s, 0)) : rreadP s = (l, 0) := by
  obtain ⟨h1, h2⟩ := textP_ok h
  have hs : s.data.toList = textL l := by rw [h2, bytesOfL_data]
  have hc : (cutP 10 s).dropLast = (l.map bodyL).map bytesOfL := by
    unfold cutP
    rw [hs, cut_text l h1, List.map_append, List.map_singleton, List.dropLast_concat]
  unfold rreadP
  rw [hc, sigsP_back l h1]
  simp only
  unfold checkP
  rw [h, if_pos ⟨rfl, rfl⟩]
end Go.Proofs.YtappdmioncdefaaDoor.Q
