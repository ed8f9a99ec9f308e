/- The log's numbers as bytes: the walks of bytes and number. -/
import Derived.Test.YtddaiihhhajieaaDiskW5
import Derived.Deep.OwnRows
import Derived.Laws.BitsAllLaws
namespace Go.Proofs.Ytddaiihhhajieaa
open Go.RowKit Go.Maps

/-- the byte of n that has i bytes behind it -/
def dig (n i : Nat) : Int := ((n / 256 ^ i % 256 : Nat) : Int)
def beNums (n k : Nat) : List Int := (List.range k).map fun j => dig n (k - 1 - j)
def be (n k : Nat) : ByteArray := strOfNums (beNums n k)
theorem dig_eq (n j : Nat) : dig n j = (n : Int) / 2 ^ (8 * j) % 256 := by
  have e : (2 : Nat) ^ (8 * j) = 256 ^ j := by rw [Nat.pow_mul]
  unfold dig
  rw [← e]
  simp
theorem Try.info5 : (Try.prog.info? 5).map (fun i => (i.zero, i.size, i.bytes)) = some (some (.int .u8 0), 1, 1) := by kernel_rfl

set_option maxHeartbeats 1000000 in
theorem bytes_any (n k : Nat) (_hn : n ≤ 9223372036854775807) (hk : k ≤ 8) (w : World) : Calls Try.prog 85 #[.int .i64 n, .int .i64 k] w fun e w' => e = .returned (.string (be n k)) ∧ Below w.heap.size w w' := by
  have hmk := fun W => run_make_row' (P := Try.prog) 59 5 (.int .u8 0) 1 Try.underlying59 Try.info5 rfl .i64 .i64 k (by omega) (by omega) W
  go_enter Try.func85, Try.ntmps85
  go_wp2
  have hb0 : Blk (w.alloc (.cells (madeCells #[Value.int .u8 0] k) 5)) w.heap.size 5 (madeCells #[Value.int .u8 0] k) := Blk.new w 5 _
  go_loopw [11] (fun i wr => ∃ j : Nat, j ≤ k ∧ i = .int .i64 j ∧ (∃ cs, Blk wr w.heap.size 5 cs ∧ cs.size = k ∧ ∀ m, k - j ≤ m → m < k → cs[m]? = some (.int .u8 (dig n (k - 1 - m)))) ∧ Below w.heap.size w wr) (fun i _ => k - (intOf i).toNat)
  case atStart => exact ⟨0, by omega, rfl, ⟨_, hb0, size_madeCells _ _, fun m h1 h2 => by omega⟩, (Below.refl _ _).alloc (Nat.le_refl _) _⟩
  case round =>
    obtain ⟨j, hj, rfl, ⟨cs, hb, hcs, hd⟩, hbel⟩ := hrel
    clear hb0 hmk
    by_cases hlt : j < k
    · have b1 : (j : Int) < k := by omega
      obtain ⟨m, hm⟩ : ∃ m : Nat, m + j + 1 = k := ⟨k - 1 - j, by omega⟩
      have em : (k : Int) - 1 - j = m := by omega
      have hmk : m < k := by omega
      have b2 : (0 : Int) ≤ (m : Int) := by omega
      have b3 : (m : Int) < k := by omega
      obtain ⟨v, hv⟩ : ∃ v, cs[m]? = some v := ⟨cs[m]'(by omega), Array.getElem?_eq_getElem _⟩
      have q1 := (hb.cell m).trans hv
      have q2 := hb.frozen m
      have HB := Lib.hid hb
      have HD := Lib.hid hd
      have HEL := Lib.hid hbel
      clear hb hd hbel hv
      go_wp2
      go_roundw
      case rel =>
        have e : (n : Int) / 2 ^ (8 * j) % 256 = dig n j := (dig_eq n j).symm
        rw [e]
        refine ⟨j + 1, by omega, by go_num, ⟨_, HB.out.set_ m _, by rw [Array.size_setIfInBounds]; exact hcs, fun p hp1 hp2 => ?_⟩, HEL.out.setCell (Nat.le_refl _) _⟩
        rw [Array.getElem?_setIfInBounds]
        by_cases ep : m = p
        · subst ep
          rw [if_pos rfl, if_pos (by omega)]
          have : k - 1 - m = j := by omega
          rw [this]
        · rw [if_neg ep]; exact HD.out p (by omega) hp2
      case measure => simp [intOf]; omega
    · obtain rfl : j = k := by omega
      have hc := run_convert_bytes_arg (P := Try.prog) wr 59 5 Try.underlying59 Try.underlying5 w.heap.size 0 j j (beNums n j) (by simp [beNums]) (fun i hi => by
        rw [Nat.zero_add, hb.cell, hd i (by omega) hi, beNums, List.getD_eq_getElem?_getD, List.getElem?_map, List.getElem?_range hi]; rfl) 9 Try.underlying9
      clear hb hcs hd
      go_wp2
      go_ret
      exact ⟨rfl, hbel⟩
/-- the number of bytes -/
def numB (s : ByteArray) : Nat := s.data.toList.foldl (fun n b => n * 256 + b.toNat) 0
def numTo (s : ByteArray) (k : Nat) : Nat := (s.data.toList.take k).foldl (fun n b => n * 256 + b.toNat) 0
theorem data_len (s : ByteArray) : s.data.toList.length = s.size := by rw [Array.length_toList]; rfl
theorem i64_or_nat (a b : Nat) (ha : a < 4294967296) (hb : b < 4294967296) : bits .or .i64 (a : Int) (b : Int) = ((a ||| b : Nat) : Int) := by
  have hx : a ||| b < 2 ^ 32 := Nat.or_lt_two_pow (by omega) (by omega)
  show IntKind.i64.wrap ((BitVec.ofInt 64 (a : Int) ||| BitVec.ofInt 64 (b : Int)).toNat : Int) = _
  rw [BitVec.toNat_or, ofInt_u64 a (by omega), ofInt_u64 b (by omega), IntKind.wrap_i64]
  omega
theorem numTo_all (s : ByteArray) : numTo s s.size = numB s := by
  unfold numTo numB
  rw [List.take_of_length_le (by rw [data_len]; exact Nat.le_refl _)]
theorem numTo_succ (s : ByteArray) (k : Nat) (h : k < s.size) : numTo s (k + 1) = numTo s k * 256 + s[k].toNat := by
  have h' : k < s.data.toList.length := by rw [data_len]; exact h
  have hg : s.data.toList[k] = s[k] := by
    obtain ⟨d⟩ := s
    exact Array.getElem_toList ..
  unfold numTo
  rw [List.take_succ_eq_append_getElem h', List.foldl_append, List.foldl_cons, List.foldl_nil, hg]
theorem numTo_lt (s : ByteArray) (k : Nat) : numTo s k < 256 ^ k := by
  induction k with
  | zero => simp [numTo]
  | succ k ih =>
    by_cases h : k < s.size
    · rw [numTo_succ s k h, Nat.pow_succ]
      have : s[k].toNat < 256 := UInt8.toNat_lt _
      omega
    · have e : numTo s (k + 1) = numTo s k := by
        unfold numTo
        rw [List.take_of_length_le (by rw [data_len]; omega), List.take_of_length_le (by rw [data_len]; omega)]
      rw [e, Nat.pow_succ]
      omega
set_option maxHeartbeats 1000000 in
theorem number_any (s : ByteArray) (hs : s.size ≤ 4) (w : World) : Calls Try.prog 58 #[.string s] w fun e w' => e = .returned (.int .i64 (numB s : Int)) ∧ w = w' := by
  go_enter Try.func58, Try.ntmps58
  go_wp2
  go_loopw [3, 7] (fun v i wr => w = wr ∧ ∃ k : Nat, k ≤ s.size ∧ i = .int .i64 k ∧ v = .int .i64 (numTo s k : Int)) (fun _ i _ => s.size - (intOf i).toNat)
  case atStart => exact ⟨rfl, 0, by omega, rfl, rfl⟩
  case round =>
    obtain ⟨rfl, k, hk, rfl, rfl⟩ := hrel
    by_cases hlt : k < s.size
    · have b1 : (k : Int) < s.size := by omega
      have b2 : (0 : Int) ≤ (k : Int) := by omega
      have hlt4 := numTo_lt s k
      have hb : numTo s k ≤ 16777215 := by
        have h3 : k = 0 ∨ k = 1 ∨ k = 2 ∨ k = 3 := by omega
        rcases h3 with rfl | rfl | rfl | rfl <;> simp at hlt4 <;> omega
      have hc : s[k].toNat < 256 := UInt8.toNat_lt _
      have hor : bits BinOp.or IntKind.i64 ((numTo s k : Int) * 256) (s[k].toNat : Int) = (numTo s (k + 1) : Int) := by
        rw [numTo_succ s k hlt]
        have e1 : ((numTo s k : Int) * 256) = ((numTo s k * 256 : Nat) : Int) := by omega
        rw [e1, i64_or_nat _ _ (by omega) (by omega)]
        rw [show numTo s k * 256 = numTo s k <<< 8 by rw [Nat.shiftLeft_eq], ← Nat.shiftLeft_add_eq_or_of_lt (by omega)]
      clear hlt4
      have HOR := Lib.hid hor
      clear hor
      go_wp2
      go_roundw
      case rel => exact ⟨trivial, k + 1, by omega, by go_num, by rw [HOR.out]⟩
      case measure => simp [intOf]; omega
    · obtain rfl : k = s.size := by omega
      have e := Lib.hid (numTo_all s)
      go_wp2
      go_ret
      exact ⟨by rw [← e.out]; rfl, rfl⟩
end Go.Proofs.Ytddaiihhhajieaa
