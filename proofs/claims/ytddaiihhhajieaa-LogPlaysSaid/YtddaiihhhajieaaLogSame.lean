/- The walks of the document's Light and Same. -/
import Derived.Test.YtddaiihhhajieaaLogAwake
namespace Go.Proofs.Ytddaiihhhajieaa
open Go.RowKit Go.Maps

/-- how heavy the first k records are -/
def heavy (l : List ByteArray) (k : Nat) : Nat := (l.take k).foldl (fun n r => n + 1 + min r.size 20000) 0
theorem heavy_succ (l : List ByteArray) (k : Nat) (h : k < l.length) : heavy l (k + 1) = heavy l k + 1 + min (l[k]).size 20000 := by
  unfold heavy
  rw [List.take_succ_eq_append_getElem h, List.foldl_append]
  rfl
theorem heavy_ge (l : List ByteArray) (k : Nat) (hk : k ≤ l.length) : k ≤ heavy l k ∧ ∀ i (hi : i < l.length), i < k → min (l[i]).size 20000 < heavy l k := by
  induction k with
  | zero => exact ⟨Nat.zero_le _, fun i hi h => by omega⟩
  | succ k ih =>
    obtain ⟨h1, h2⟩ := ih (by omega)
    rw [heavy_succ l k (by omega)]
    refine ⟨by omega, fun i hi h => ?_⟩
    by_cases e : i = k
    · subst e; omega
    · have := h2 i hi (by omega)
      omega
/-- what Light has said of records that it let in -/
def IsLight (l : List ByteArray) : Prop := l.length < 20000 ∧ ∀ r ∈ l, r.size < 20000
theorem isLight_of {l : List ByteArray} (h : heavy l l.length < 20000) : IsLight l := by
  obtain ⟨h1, h2⟩ := heavy_ge l l.length (Nat.le_refl _)
  refine ⟨by omega, fun r hr => ?_⟩
  obtain ⟨i, hi, rfl⟩ := List.getElem_of_mem hr
  have := h2 i hi hi
  omega

def LightLeft (w : World) (l : List ByteArray) (e : Ending) (w' : World) : Prop := ∃ b, e = .returned (.bool b) ∧ (b = true → IsLight l) ∧ w = w'

set_option maxHeartbeats 2000000 in
set_option maxRecDepth 100000 in
theorem light_any {w : World} (v : Value) (l : List ByteArray) (hv : IsStrs w v l) : Calls Try.prog 32 #[v] w (LightLeft w l) := by
  obtain ⟨A, c, rfl, hc, hm, hx⟩ := hv
  have HX := Lib.hid hx
  obtain ⟨N, hN⟩ : ∃ N, N = l.length := ⟨_, rfl⟩
  rw [← hN] at hc ⊢
  have HN := Lib.hid hN
  have g0 : N ≤ 9223372036854775807 := by omega
  have HC := Lib.hid (⟨hc, hm⟩ : _ ∧ _)
  clear hx hN hc hm
  go_enter Try.func32, Try.ntmps32
  go_wp2
  go_loopw [3, 4] (fun nv iv wr => w = wr ∧ ∃ k : Nat, k ≤ N ∧ k ≤ 20000 ∧ iv = .int .i64 k ∧ nv = .int .i64 (heavy l k : Nat) ∧ heavy l k ≤ 40001) (fun _ iv _ => N - (intOf iv).toNat)
  case atStart => exact ⟨rfl, 0, by omega, by omega, rfl, rfl, by show 0 ≤ _; omega⟩
  case round =>
    obtain ⟨rfl, k, hk, hk2, rfl, rfl, hh⟩ := hrel
    by_cases hlt : k < N
    · by_cases h2 : heavy l k < 20000
      · obtain ⟨b, off, rfl, hx⟩ := HX.out k (by rw [← HN.out]; exact hlt)
        obtain ⟨r, hr⟩ : ∃ r, r = l[k]'(by rw [← HN.out]; exact hlt) := ⟨_, rfl⟩
        rw [← hr] at hx
        have x0 := hx.1
        rw [Nat.mul_one] at x0
        have x1 := hx.2
        have hs := heavy_succ l k (by rw [← HN.out]; exact hlt)
        rw [← hr] at hs
        have hge := (heavy_ge l k (by rw [← HN.out]; omega)).1
        obtain ⟨H, hH⟩ : ∃ H, H = heavy l k := ⟨_, rfl⟩
        rw [← hH] at hs hge h2 ⊢
        have HS := Lib.hid hs
        have q1 : (H : Int) < 20000 := by omega
        have q2 : (k : Int) < (N : Int) := by omega
        clear hx hr hs hH hh
        go_wp2_with fail
        go_roundw
        case rel =>
          have e1 : (H : Int) + 1 + min (r.size : Int) 20000 = ((heavy l (k + 1) : Nat) : Int) := by rw [HS.out]; omega
          refine ⟨trivial, k + 1, by omega, by omega, by go_num, ?_, by rw [HS.out]; omega⟩
          rw [← e1]
        case measure => simp [intOf]; omega
      · have q1 : ¬ ((heavy l k : Nat) : Int) < 20000 := by omega
        have q2 : (k : Int) < (N : Int) := by omega
        clear h2
        go_wp2_with fail
        go_ret
        exact ⟨false, rfl, (fun h => by cases h), rfl⟩
    · obtain rfl : k = N := by omega
      have q2 : ¬ (k : Int) < (k : Int) := by omega
      obtain ⟨H, hH⟩ : ∃ H, H = heavy l k := ⟨_, rfl⟩
      rw [← hH]
      have HH := Lib.hid hH
      clear hH hh
      by_cases h2 : H < 20000
      · have q1 : (H : Int) < 20000 := by omega
        have K := Lib.hid (show IsLight l from isLight_of (by rw [← HN.out, ← HH.out]; exact h2))
        clear h2
        go_wp2_with fail
        go_ret
        exact ⟨true, rfl, fun _ => K.out, rfl⟩
      · have q1 : ¬ (H : Int) < 20000 := by omega
        clear h2
        go_wp2_with fail
        go_ret
        exact ⟨false, rfl, (fun h => by cases h), rfl⟩

/-- a slice of strings, of any length each -/
def EStr0 (w : World) (b o : Nat) (s : ByteArray) : Prop := w.cell? ⟨b, o, none⟩ = some (.string s)
theorem EStr0.stays : Stays EStr0 := fun _ _ _ _ _ h hb => cell_stays h hb
abbrev IsStrs0 : World → Value → List ByteArray → Prop := SliceOf EStr0 1
theorem isStrs0_of {w : World} {v : Value} {l : List ByteArray} (h : IsStrs w v l) : IsStrs0 w v l := by
  obtain ⟨A, c, hv, hc, hm, hx⟩ := h
  exact ⟨A, c, hv, hc, hm, fun i hi => by obtain ⟨b, off, hA, he⟩ := hx i hi; exact ⟨b, off, hA, he.1⟩⟩
theorem isStrs0_own {w : World} {base n : Nat} {v : Value} {l : List ByteArray} (h : w.ownsRow base 9 1 v n (strsV l)) (hn : n = l.length) : IsStrs0 w v l := by
  subst hn
  have hcap : ∃ A c, v = .slice A l.length c ∧ l.length ≤ c ∧ c ≤ 9223372036854775807 := by
    rcases h.2 with ⟨rfl, h0⟩ | ⟨g, cap, cur, rfl, _, _, hc, hm, _⟩
    · exact ⟨none, 0, by rw [h0], by omega, by omega⟩
    · exact ⟨_, cap, rfl, hc, Nat.le_trans hm (by decide)⟩
  obtain ⟨A, c, rfl, hle, hm⟩ := hcap
  refine ⟨A, c, rfl, hle, hm, fun i hi => ?_⟩
  obtain ⟨g, rfl, h1, h2⟩ := own_cell h (by omega)
  refine ⟨g, 0, rfl, ?_⟩
  unfold EStr0
  rw [Nat.zero_add, Nat.mul_one, h1 i (by omega)]
  simp [strsV, hi]

set_option maxHeartbeats 2000000 in
set_option maxRecDepth 100000 in
theorem same_any {w : World} (u v : Value) (l m : List ByteArray) (hu : IsStrs0 w u l) (hv : IsStrs0 w v m) : Calls Try.prog 37 #[u, v] w fun e w' => e = .returned (.bool (decide (l = m))) ∧ Below w.heap.size w w' := by
  obtain ⟨A, c, rfl, hc, hm, hx⟩ := hu
  obtain ⟨B, d, rfl, hd, hn, hy⟩ := hv
  have HX := Lib.hid hx
  have HY := Lib.hid hy
  by_cases hlen : l.length = m.length
  · obtain ⟨N, hN⟩ : ∃ N, N = l.length := ⟨_, rfl⟩
    rw [← hlen, ← hN]
    have HN := Lib.hid hN
    have HM := Lib.hid (hN.trans hlen)
    have g0 : N ≤ 9223372036854775807 := by omega
    obtain ⟨R, hR⟩ : ∃ R, R = decide (l = m) := ⟨_, rfl⟩
    rw [← hR]
    have HR := Lib.hid hR
    clear hx hy hN hlen hc hm hd hn hR
    go_enter Try.func37, Try.ntmps37
    go_wp2
    go_loopw [5] (fun iv wr => Below w.heap.size w wr ∧ ∃ k : Nat, k ≤ N ∧ iv = .int .i64 k ∧ l.take k = m.take k) (fun iv _ => N - (intOf iv).toNat)
    case atStart => exact ⟨Below.refl _ _, 0, by omega, rfl, rfl⟩
    case round =>
      obtain ⟨hbel, k, hk, rfl, hs⟩ := hrel
      by_cases hlt : k < N
      · have hl : k < l.length := by rw [← HN.out]; exact hlt
        have hm : k < m.length := by rw [← HM.out]; exact hlt
        obtain ⟨b, off, rfl, hx⟩ := HX.out k hl
        obtain ⟨b', off', rfl, hy⟩ := HY.out k hm
        obtain ⟨r, hr⟩ : ∃ r, r = l[k] := ⟨_, rfl⟩
        obtain ⟨t, ht⟩ : ∃ t, t = m[k] := ⟨_, rfl⟩
        rw [← hr] at hx
        rw [← ht] at hy
        have x0 := EStr0.stays _ _ _ _ _ hx hbel
        have y0 := EStr0.stays _ _ _ _ _ hy hbel
        unfold EStr0 at x0 y0
        rw [Nat.mul_one] at x0 y0
        have q2 : (k : Int) < (N : Int) := by omega
        have HB := Lib.hid hbel.drew
        by_cases heq : r = t
        · have HS := Lib.hid (show l.take (k + 1) = m.take (k + 1) by rw [List.take_succ_eq_append_getElem hl, List.take_succ_eq_append_getElem hm, hs, ← hr, ← ht, heq])
          subst heq
          have q3 : (r.toList != r.toList) = false := by simp
          clear hx hy hr ht hl hm hs hbel
          go_wp2_with fail
          go_region
          go_wp2_with fail
          go_roundw
          case rel => exact ⟨HB.out, k + 1, by omega, by go_num, HS.out⟩
          case measure => simp [intOf]; omega
        · have hne : R = false := by
            rw [HR.out]
            refine decide_eq_false fun h => heq ?_
            subst h
            rw [hr, ht]
          have q3 : (r.toList == t.toList) = false := toList_ne heq
          have q4 : (r.toList != t.toList) = true := by rw [bne, q3]; rfl
          subst hne
          clear hx hy hr ht hl hm hs hbel heq
          go_wp2_with fail
          go_region
          go_wp2_with fail
          go_ret
          exact ⟨rfl, HB.out⟩
      · obtain rfl : k = N := by omega
        have he : R = true := by
          rw [HR.out]
          refine decide_eq_true ?_
          rw [List.take_of_length_le (by rw [← HN.out]; exact Nat.le_refl _), List.take_of_length_le (by rw [← HM.out]; exact Nat.le_refl _)] at hs
          exact hs
        subst he
        have q2 : ¬ (k : Int) < (k : Int) := by omega
        have HB := Lib.hid hbel
        clear hs hbel
        go_wp2_with fail
        go_ret
        exact ⟨rfl, HB.out⟩
  · have he : decide (l = m) = false := decide_eq_false fun h => hlen (by rw [h])
    rw [he]
    have q : ((l.length : Int) != (m.length : Int)) = true := by rw [bne_iff_ne]; omega
    clear hx hy hlen he
    go_enter Try.func37, Try.ntmps37
    go_wp2_with fail
    go_ret
    exact ⟨rfl, Below.refl _ _⟩
end Go.Proofs.Ytddaiihhhajieaa
