/- The document's numbers: the walks of big, number, Need. -/
import Derived.Test.YtddaiihhhajieaaLogSame
namespace Go.Proofs.Ytddaiihhhajieaa
open Go.RowKit Go.Maps

theorem be_cons (n k : Nat) : be n (k + 1) = strOfNums [dig n k] ++ be n k := by
  apply ByteArray.ext
  apply Array.toList_inj.1
  rw [ByteArray.data_append, Array.toList_append, be_data, be_data, List.range_succ_eq_map, List.map_cons, List.map_map]
  rw [strOfNums_data]
  show _ = [_] ++ _
  rw [List.singleton_append]
  congr 1
  refine List.map_congr_left fun j hj => ?_
  show UInt8.ofNat (n / 256 ^ (k + 1 - 1 - (j + 1)) % 256) = UInt8.ofNat (n / 256 ^ (k - 1 - j) % 256)
  congr 4
  omega
theorem be_zero (n : Nat) : be n 0 = ⟨#[]⟩ := rfl

set_option maxHeartbeats 1000000 in
set_option maxRecDepth 100000 in
theorem big_any (n k : Nat) (hn : n ≤ 9223372036854775807) (hk : k ≤ 8) (w : World) : Calls Try.prog 89 #[.int .i64 n, .int .i64 k] w fun e w' => e = .returned (.string (be n k)) ∧ Below w.heap.size w w' := by
  go_enter Try.func89, Try.ntmps89
  go_wp2
  go_loopw [0, 5, 6] (fun nv sv iv wr => ∃ j : Nat, j ≤ k ∧ iv = .int .i64 j ∧ nv = .int .i64 ((n / 256 ^ j : Nat) : Int) ∧ sv = .string (be n j) ∧ Below w.heap.size w wr) (fun _ _ iv _ => k - (intOf iv).toNat)
  case atStart => exact ⟨0, by omega, rfl, by simp, rfl, Below.refl _ _⟩
  case round =>
    obtain ⟨j, hj, rfl, rfl, rfl, hbel⟩ := hrel
    obtain ⟨m, hm⟩ : ∃ m, m = n / 256 ^ j := ⟨_, rfl⟩
    have hmn : m ≤ 9223372036854775807 := by rw [hm]; exact Nat.le_trans (Nat.div_le_self _ _) hn
    rw [← hm]
    obtain ⟨s, hs⟩ : ∃ s, s = be n j := ⟨_, rfl⟩
    have hss : s.size = j := by rw [hs, be_size]
    rw [← hs]
    have HM := Lib.hid hm
    have HS := Lib.hid hs
    have HB := Lib.hid hbel
    clear hm hs hbel
    by_cases hlt : j < k
    · have q1 : (j : Int) < (k : Int) := by omega
      have hb5 : Blk (wr.alloc (.cells #[.int .u8 ((m : Int) % 256)] 5)) wr.heap.size 5 #[.int .u8 ((m : Int) % 256)] := Blk.new wr 5 _
      have hc := run_convert_bytes_arg (P := Try.prog) (wr.alloc (.cells #[.int .u8 ((m : Int) % 256)] 5)) 59 5 Try.underlying59 Try.underlying5 wr.heap.size 0 1 1 [(m : Int) % 256] rfl (fun i hi => by
        obtain rfl : i = 0 := by omega
        rw [Nat.zero_add, hb5.cell]; rfl) 9 Try.underlying9
      have HN := Lib.hid (show strOfNums [(m : Int) % 256] ++ s = be n (j + 1) by
        rw [be_cons, ← HS.out]
        have : dig n j = (m : Int) % 256 := by unfold dig; rw [HM.out]; omega
        rw [this])
      have hsz : (strOfNums [(m : Int) % 256]).size = 1 := strOfNums_size _
      have hadd : ¬ 9223372036854775807 < (strOfNums [(m : Int) % 256]).size + s.size := by rw [hsz]; omega
      have HD := Lib.hid (show (m : Int) / 256 = ((n / 256 ^ (j + 1) : Nat) : Int) by rw [Nat.pow_succ, ← Nat.div_div_eq_div_mul, ← HM.out]; omega)
      clear hb5 hsz
      go_wp2_with fail
      go_roundw
      case rel => exact ⟨j + 1, by omega, by go_num, by rw [HD.out], by rw [HN.out], HB.out.alloc (by have := HB.out.size; omega) _⟩
      case measure => simp [intOf]; omega
    · obtain rfl : j = k := by omega
      have q1 : ¬ (j : Int) < (j : Int) := by omega
      go_wp2_with fail
      go_ret
      exact ⟨by rw [← HS.out]; rfl, HB.out⟩

set_option maxHeartbeats 1000000 in
theorem rneed_any (s : ByteArray) (hs : s.size < 9223372036854775000) (w : World) : Calls Try.prog 66 #[.string s] w fun e w' => e = .returned (.int .i64 (needN s.size : Int)) ∧ w = w' := by
  have g : (s.size : Int) < 9223372036854775000 := by omega
  have E1 := Lib.hid (show max (((s.size : Int) + 51) / 52) 1 = (needN s.size : Int) by unfold needN; omega)
  go_enter Try.func66, Try.ntmps66
  go_wp2_with fail
  go_ret
  exact ⟨by rw [← E1.out]; rfl, rfl⟩

set_option maxHeartbeats 1000000 in
theorem rnumber_any (s : ByteArray) (hs : s.size ≤ 4) (w : World) : Calls Try.prog 63 #[.string s] w fun e w' => e = .returned (.int .i64 (numB s : Int)) ∧ w = w' := by
  go_enter Try.func63, Try.ntmps63
  go_wp2
  go_loopw [3, 4] (fun v i wr => w = wr ∧ ∃ k : Nat, k ≤ s.size ∧ i = .int .i64 k ∧ v = .int .i64 (numTo s k : Int)) (fun _ i _ => s.size - (intOf i).toNat)
  case atStart => exact ⟨rfl, 0, by omega, rfl, rfl⟩
  case round =>
    obtain ⟨rfl, k, hk, rfl, rfl⟩ := hrel
    by_cases hlt : k < s.size
    · have b1 : (k : Int) < s.size := by omega
      have b2 : (0 : Int) ≤ (k : Int) := by omega
      have hlt4 := numTo_lt s k
      have hb : numTo s k ≤ 16777215 := by
        have h3 : k = 0 ∨ k = 1 ∨ k = 2 ∨ k = 3 := by omega
        rcases h3 with rfl | rfl | rfl | rfl <;> simp at hlt4 ⊢ <;> omega
      obtain ⟨T, hT⟩ : ∃ T, T = numTo s k := ⟨_, rfl⟩
      rw [← hT] at hb ⊢
      have hS := numTo_succ s k hlt
      rw [← hT] at hS
      have hu : s[k].toNat < 256 := UInt8.toNat_lt _
      have HS := Lib.hid hS
      clear hS hT hlt4
      go_wp2_with fail
      go_roundw
      case rel => exact ⟨trivial, k + 1, by omega, by go_num, by rw [HS.out]; rfl⟩
      case measure => simp [intOf]; omega
    · obtain rfl : k = s.size := by omega
      have e := Lib.hid (numTo_all s)
      go_wp2
      go_ret
      exact ⟨by rw [← e.out]; rfl, rfl⟩
end Go.Proofs.Ytddaiihhhajieaa
