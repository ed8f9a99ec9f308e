/- The log's blocks: the walk of block. -/
import Derived.Test.YtddaiihhhajieaaLogNum
import Derived.Deep.RegionHeld3
namespace Go.Proofs.Ytddaiihhhajieaa
open Go.RowKit Go.Maps

theorem bytes_int (n k : Int) (h0 : 0 ≤ n) (h1 : n ≤ 9223372036854775807) (h2 : 0 ≤ k) (h3 : k ≤ 8) (w : World) : Calls Try.prog 85 #[.int .i64 n, .int .i64 k] w fun e w' => e = .returned (.string (be n.toNat k.toNat)) ∧ Below w.heap.size w w' := by
  obtain ⟨N, rfl⟩ := Int.eq_ofNat_of_zero_le h0
  obtain ⟨K, rfl⟩ := Int.eq_ofNat_of_zero_le h2
  exact bytes_any N K (by omega) (by omega) w
theorem be_size (n k : Nat) : (be n k).size = k := by unfold be; rw [strOfNums_size]; simp [beNums]
theorem rep_zs (n : Nat) : (⟨(Lib.repeatL (⟨#[0]⟩ : ByteArray).data.toList n).toArray⟩ : ByteArray) = zs n := by
  unfold zs
  congr 2
  induction n with
  | zero => rfl
  | succ n ih => rw [List.replicate_succ, ← ih]; rfl
theorem rep_any (n : Int) (h0 : 0 ≤ n) (h1 : n ≤ 64) (w : World) : Calls Try.prog 53 #[.string ⟨#[0]⟩, .int .i64 n] w fun e w' => e = .returned (.string (zs n.toNat)) ∧ Below w.heap.size w w' := by
  obtain ⟨N, rfl⟩ := Int.eq_ofNat_of_zero_le h0
  have h := Try.strings_Repeat ⟨#[0]⟩ N w (by omega) (by
    have : (⟨#[0]⟩ : ByteArray).size = 1 := rfl
    rw [this]; omega)
  rw [rep_zs] at h
  exact h

structure Hd where
  epoch : Nat
  group : Nat
  part : Nat
  last : Bool
  long : Nat
def Hd.val (h : Hd) : Value := .agg #[.int .i64 h.epoch, .int .i64 h.group, .int .i64 h.part, .bool h.last, .int .i64 h.long]
structure Hd.Fine (h : Hd) : Prop where
  epoch : h.epoch ≤ 9223372036854775807
  group : h.group ≤ 9223372036854775807
  part : h.part ≤ 9223372036854775807
  long : h.long ≤ 9223372036854775807
def Hd.bytes (h : Hd) (s : ByteArray) : ByteArray := be h.epoch 4 ++ be h.group 4 ++ be h.part 2 ++ be h.last.toNat 1 ++ be h.long 1 ++ s
def Hd.block (h : Hd) (s : ByteArray) : ByteArray := h.bytes s ++ zs (64 - (h.bytes s).size)

set_option maxHeartbeats 1000000 in
theorem lblock_any (h : Hd) (hf : h.Fine) (s : ByteArray) (hs : s.size ≤ 52) (w : World) : Calls Try.prog 86 #[.agg #[.int .i64 h.epoch, .int .i64 h.group, .int .i64 h.part, .bool h.last, .int .i64 h.long], .string s] w fun e w' => e = .returned (.string (h.block s)) ∧ Below w.heap.size w w' := by
  obtain ⟨f1, f2, f3, f4⟩ := hf
  obtain ⟨e, g, p, last, long⟩ := h
  simp only at *
  have hb := Blk.new w 112 #[.int .i64 e, .int .i64 g, .int .i64 p, .bool last, .int .i64 long]
  have HB := Lib.hid hb
  have K : Hid (∀ W, Below (w.heap.size + 1) (w.alloc (.cells #[.int .i64 e, .int .i64 g, .int .i64 p, .bool last, .int .i64 long] 112)) W → W.cell? ⟨w.heap.size, 0, none⟩ = some (.int .i64 e) ∧ W.cell? ⟨w.heap.size, 1, none⟩ = some (.int .i64 g) ∧ W.cell? ⟨w.heap.size, 2, none⟩ = some (.int .i64 p) ∧ W.cell? ⟨w.heap.size, 4, none⟩ = some (.int .i64 long)) := by
    intro W hbel
    have h1 := hb.below hbel (by omega)
    exact ⟨(h1.cell 0).trans rfl, (h1.cell 1).trans rfl, (h1.cell 2).trans rfl, (h1.cell 4).trans rfl⟩
  have H85 : Hid (∀ (n k : Int), 0 ≤ n → n ≤ 9223372036854775807 → 0 ≤ k → k ≤ 8 → ∀ W, Below (w.heap.size + 1) (w.alloc (.cells #[.int .i64 e, .int .i64 g, .int .i64 p, .bool last, .int .i64 long] 112)) W →
      Calls Try.prog 85 #[.int .i64 n, .int .i64 k] W fun e1 w' => e1 = .returned (.string (be n.toNat k.toNat)) ∧ Below (w.heap.size + 1) (w.alloc (.cells #[.int .i64 e, .int .i64 g, .int .i64 p, .bool last, .int .i64 long] 112)) w') :=
    fun n k h1 h2 h3 h4 W hb => (bytes_int n k h1 h2 h3 h4 W).mono fun e1 w' hh => ⟨hh.1, hb.trans (hh.2.mono (by have := hb.size; simpa using this))⟩
  have BA := Lib.hid ((Below.refl (w.heap.size + 1) (w.alloc (.cells #[.int .i64 e, .int .i64 g, .int .i64 p, .bool last, .int .i64 long] 112))).drew)
  clear hb
  have hz := be_size
  have RP := Lib.hid rep_any
  have hg1 : ¬ 9223372036854775807 < 12 + s.size := by omega
  have BZ := Lib.hid ((Below.refl w.heap.size w).alloc (Nat.le_refl _) (.cells #[.int .i64 e, .int .i64 g, .int .i64 p, .bool last, .int .i64 long] 112))
  cases last
  · go_enter Try.func86, Try.ntmps86
    go_wp2
    go_region_held3 (fun W => W.cell? ⟨w.heap.size, 0, none⟩ = some (.int .i64 e) ∧ W.cell? ⟨w.heap.size, 1, none⟩ = some (.int .i64 g) ∧ W.cell? ⟨w.heap.size, 2, none⟩ = some (.int .i64 p) ∧ W.cell? ⟨w.heap.size, 4, none⟩ = some (.int .i64 long)) (first | exact K.out _ b1 | exact K.out _ BA.out)
      (first | (go_at_call 85; refine (H85.out _ _ (by omega) (by omega) (by omega) (by omega) _ (by first | exact b1 | exact BA.out)).mono ?_; rintro e1 w1 ⟨rfl, b1⟩))
    have B1 := Lib.hid b1
    obtain ⟨B, hB⟩ : ∃ B, B = be e 4 ++ be g 4 ++ be p 2 ++ be 0 1 ++ be long 1 ++ s := ⟨_, rfl⟩
    have hBs : B.size = 12 + s.size := by rw [hB]; simp [hz]
    have hB64 : B.size ≤ 64 := by omega
    rw [← hB]
    have HB' := Lib.hid hB
    clear b1 hB hz hg1 hBs
    have hg2 : (B.size : Int) ≤ 64 := by omega
    have hg3 : ¬ 9223372036854775807 < B.size + (zs (64 - B.size)).size := by rw [zs_size]; omega
    go_wp2_with (go_at_call 53; refine (RP.out _ (by omega) (by omega) _).mono ?_; rintro e2 w2 ⟨rfl, b2⟩)
    go_ret
    exact ⟨by rw [HB'.out]; rfl, BZ.out.trans ((B1.out.mono (by omega)).trans (b2.mono (by have := B1.out.size; simp at this; omega)))⟩
  · go_enter Try.func86, Try.ntmps86
    go_wp2
    go_region_held3 (fun W => W.cell? ⟨w.heap.size, 0, none⟩ = some (.int .i64 e) ∧ W.cell? ⟨w.heap.size, 1, none⟩ = some (.int .i64 g) ∧ W.cell? ⟨w.heap.size, 2, none⟩ = some (.int .i64 p) ∧ W.cell? ⟨w.heap.size, 4, none⟩ = some (.int .i64 long)) (first | exact K.out _ b1 | exact K.out _ BA.out)
      (first | (go_at_call 85; refine (H85.out _ _ (by omega) (by omega) (by omega) (by omega) _ (by first | exact b1 | exact BA.out)).mono ?_; rintro e1 w1 ⟨rfl, b1⟩))
    have B1 := Lib.hid b1
    obtain ⟨B, hB⟩ : ∃ B, B = be e 4 ++ be g 4 ++ be p 2 ++ be 1 1 ++ be long 1 ++ s := ⟨_, rfl⟩
    have hBs : B.size = 12 + s.size := by rw [hB]; simp [hz]
    have hB64 : B.size ≤ 64 := by omega
    rw [← hB]
    have HB' := Lib.hid hB
    clear b1 hB hz hg1 hBs
    have hg2 : (B.size : Int) ≤ 64 := by omega
    have hg3 : ¬ 9223372036854775807 < B.size + (zs (64 - B.size)).size := by rw [zs_size]; omega
    go_wp2_with (go_at_call 53; refine (RP.out _ (by omega) (by omega) _).mono ?_; rintro e2 w2 ⟨rfl, b2⟩)
    go_ret
    exact ⟨by rw [HB'.out]; rfl, BZ.out.trans ((B1.out.mono (by omega)).trans (b2.mono (by have := B1.out.size; simp at this; omega)))⟩
end Go.Proofs.Ytddaiihhhajieaa
