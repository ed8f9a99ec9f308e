/- The walk of layer 19's light. -/
import Derived.Test.YtddaiihhhajieaaLogSame
namespace Go.Proofs.Ytddaiihhhajieaa
open Go.RowKit Go.Maps

def OpsLeft (w : World) (l : List Op19) (e : Ending) (w' : World) : Prop := ∃ b, e = .returned (.bool b) ∧ (b = true → l.length ≤ 60 ∧ ∀ i (hi : i < l.length), IsLight (l[i]'hi).recs) ∧ w = w'

set_option maxHeartbeats 2000000 in
set_option maxRecDepth 100000 in
theorem light19_any {w : World} (v : Value) (l : List Op19) (hv : IsOps19 w v l) : Calls Try.prog 39 #[v] w (OpsLeft w l) := by
  obtain ⟨A, c, rfl, hc, hm, hx⟩ := hv
  have HX := Lib.hid hx
  obtain ⟨N, hN⟩ : ∃ N, N = l.length := ⟨_, rfl⟩
  rw [← hN] at hc ⊢
  have HN := Lib.hid hN
  have g0 : N ≤ 9223372036854775807 := by omega
  have HLg := Lib.hid (fun v l (hv : IsStrs w v l) => light_any v l hv)
  clear hx hN hc hm
  go_enter Try.func39, Try.ntmps39
  go_wp2
  go_loopw [3, 4] (fun nv iv wr => w = wr ∧ ∃ i n : Nat, i ≤ N ∧ i ≤ 60 ∧ iv = .int .i64 i ∧ nv = .int .i64 n ∧ n ≤ i * 400000000 ∧ ∀ j (hj : j < l.length), j < i → IsLight (l[j]'hj).recs) (fun _ iv _ => N - (intOf iv).toNat)
  case atStart => exact ⟨rfl, 0, 0, by omega, by omega, rfl, rfl, by omega, fun j hj h => by omega⟩
  case round =>
    obtain ⟨rfl, i, n, hi, hi6, rfl, rfl, hn, hall⟩ := hrel
    by_cases hlt : i < N
    · by_cases h60 : i < 60
      · obtain ⟨b, off, rfl, hx⟩ := HX.out i (by rw [← HN.out]; exact hlt)
        obtain ⟨x, hxe⟩ : ∃ x, x = l[i]'(by rw [← HN.out]; exact hlt) := ⟨_, rfl⟩
        rw [← hxe] at hx
        obtain ⟨ev, he1, he2⟩ := hx.c2
        have h32 := HLg.out ev x.recs he2
        obtain ⟨A5, c5, rfl, hc5, hm5, hx5⟩ := he2
        obtain ⟨M, hM⟩ : ∃ M, M = x.recs.length := ⟨_, rfl⟩
        rw [← hM] at h32 hc5 he1
        have H32 := Lib.hid h32
        have H5 := Lib.hid hx5
        have HME := Lib.hid hM
        have HXE := Lib.hid hxe
        have HALL := Lib.hid hall
        have q1 : (i : Int) < (N : Int) := by omega
        have q2 : (i : Int) < 60 := by omega
        have gm : M ≤ 9223372036854775807 := by omega
        clear hx h32 hx5 hM hxe hall hc5 hm5
        go_wp2_with (go_at_call 32; refine H32.out.mono ?_)
        rintro e2 w2 ⟨bb, rfl, hl, rfl⟩
        cases bb with
        | false =>
          go_wp2_with fail
          go_ret
          exact ⟨false, rfl, (fun h => by cases h), rfl⟩
        | true =>
          have HLL := Lib.hid (hl rfl)
          clear hl
          have gm2 : M < 20000 := by have := HLL.out.1; rw [HME.out]; exact this
          go_wp2_with fail
          go_loopw [3, 6] (fun nv kv wr => w = wr ∧ ∃ k m : Nat, k ≤ M ∧ kv = .int .i64 k ∧ nv = .int .i64 m ∧ m ≤ n + k * 20000) (fun _ kv _ => M - (intOf kv).toNat)
          case atStart => exact ⟨rfl, 0, n, by omega, rfl, rfl, by omega⟩
          case round =>
            obtain ⟨rfl, k, m, hk, rfl, rfl, hmm⟩ := hrel
            by_cases hkm : k < M
            · obtain ⟨b6, off6, rfl, hx6⟩ := H5.out k (by rw [← HME.out]; exact hkm)
              have y0 := hx6.1
              rw [Nat.mul_one] at y0
              have hsz : (x.recs[k]'(by rw [← HME.out]; exact hkm)).size < 20000 := HLL.out.2 _ (List.getElem_mem _)
              obtain ⟨r, hr⟩ : ∃ r, r = x.recs[k]'(by rw [← HME.out]; exact hkm) := ⟨_, rfl⟩
              rw [← hr] at y0 hsz
              have q3 : (k : Int) < (M : Int) := by omega
              clear hx6 hr
              go_wp2_with fail
              go_roundw
              case rel => exact ⟨trivial, k + 1, m + r.size, by omega, by go_num, by go_num, by omega⟩
              case measure => simp [intOf]; omega
            · obtain rfl : k = M := by omega
              have q3 : ¬ (k : Int) < (k : Int) := by omega
              go_wp2_with fail
              go_roundw
              case rel =>
                refine ⟨trivial, i + 1, m, by omega, by omega, by go_num, rfl, by omega, fun j hj hji => ?_⟩
                by_cases e : j = i
                · subst e; rw [← HXE.out]; exact HLL.out
                · exact HALL.out j hj (by omega)
              case measure => simp [intOf]; omega
      · have q1 : (i : Int) < (N : Int) := by omega
        have q2 : ¬ (i : Int) < 60 := by omega
        have q3 : ¬ (N : Int) ≤ 60 := by omega
        have d3 : decide ((N : Int) ≤ 60) = false := decide_eq_false q3
        clear hall
        go_wp2_with fail
        go_ret
        exact ⟨false, rfl, (fun h => by cases h), rfl⟩
    · obtain rfl : i = N := by omega
      have q1 : ¬ (i : Int) < (i : Int) := by omega
      have q3 : (i : Int) ≤ 60 := by omega
      have K := Lib.hid (show l.length ≤ 60 ∧ ∀ j (hj : j < l.length), IsLight (l[j]'hj).recs from ⟨by rw [← HN.out]; exact hi6, fun j hj => hall j hj (by rw [HN.out]; exact hj)⟩)
      clear hall
      by_cases h6 : n ≤ 60000
      · have q4 : (n : Int) ≤ 60000 := by omega
        go_wp2_with fail
        go_ret
        exact ⟨true, rfl, fun _ => K.out, rfl⟩
      · have q4 : decide ((n : Int) ≤ 60000) = false := decide_eq_false (by omega)
        clear h6
        go_wp2_with fail
        go_ret
        exact ⟨false, rfl, (fun h => by cases h), rfl⟩
end Go.Proofs.Ytddaiihhhajieaa
