/- What the log keeps, as plain data: what is written is read, behind a loss of power too. No Go in sight. -/
import Derived.Test.YtddaiihhhajieaaLogWr
import Derived.Test.YtddaiihhhajieaaLogPackW
namespace Go.Proofs.Ytddaiihhhajieaa
open Go.RowKit

/-! ### a number's bytes are read as that number -/
theorem numB_append (s t : ByteArray) : numB (s ++ t) = t.data.toList.foldl (fun n b => n * 256 + b.toNat) (numB s) := by
  unfold numB
  rw [ByteArray.data_append, Array.toList_append, List.foldl_append]
theorem be_data (n k : Nat) : (be n k).data.toList = (List.range k).map fun j => UInt8.ofNat (n / 256 ^ (k - 1 - j) % 256) := by
  unfold be
  rw [strOfNums_data, beNums, List.map_map]
  rfl
theorem be_succ (n k : Nat) : (be n (k + 1)).data.toList = (be (n / 256) k).data.toList ++ [UInt8.ofNat (n % 256)] := by
  rw [be_data, be_data, List.range_succ, List.map_append]
  congr 1
  · refine List.map_congr_left fun j hj => ?_
    have hj := List.mem_range.1 hj
    have e : k + 1 - 1 - j = (k - 1 - j) + 1 := by omega
    rw [e, Nat.pow_succ, Nat.mul_comm, Nat.div_div_eq_div_mul]
  · simp
theorem numB_be (k : Nat) : ∀ n, n < 256 ^ k → numB (be n k) = n := by
  induction k with
  | zero => intro n h; have : n = 0 := by simpa using h
            subst this; rfl
  | succ k ih =>
    intro n h
    have h2 := ih (n / 256) (by rw [Nat.pow_succ] at h; exact Nat.div_lt_of_lt_mul (by rw [Nat.mul_comm]; exact h))
    unfold numB at h2 ⊢
    rw [be_succ, List.foldl_append, h2]
    simp
    omega
theorem mid (a b c : ByteArray) {i j : Nat} (hi : i = a.size) (hj : j = a.size + b.size) : (a ++ (b ++ c)).extract i j = b := by
  subst hi; subst hj
  have h := ByteArray.extract_append_size_add (a := a) (b := b ++ c) (i := 0) (j := b.size)
  rw [Nat.add_zero] at h
  rw [h]
  exact ByteArray.extract_append_eq_left rfl
theorem behind (a b : ByteArray) {i j : Nat} (hi : i = a.size) (hj : j = (a ++ b).size) : (a ++ b).extract i j = b := by
  subst hi; subst hj
  exact ByteArray.extract_append_eq_right rfl (ByteArray.size_append)
theorem bAt_mid (a b c : ByteArray) {i : Nat} (hi : i = a.size) (hb : 0 < b.size) : bAt (a ++ (b ++ c)) i = bAt b 0 := by
  subst hi
  unfold bAt
  rw [ByteArray.data_append, Array.toList_append, ByteArray.data_append, Array.toList_append, List.getD_eq_getElem?_getD, List.getD_eq_getElem?_getD,
    List.getElem?_append_right (by rw [data_len]; exact Nat.le_refl _), data_len, Nat.sub_self, List.getElem?_append_left (by rw [data_len]; exact hb)]
theorem bAt_be1 (n : Nat) (h : n < 256) : bAt (be n 1) 0 = n := by
  unfold bAt
  rw [be_data]
  simp
  omega

/-! ### what a block says is what was laid in it -/
structure Hd.Ok (h : Hd) (s : ByteArray) : Prop where
  epoch : h.epoch < 4294967296
  group : h.group < 4294967296
  part : h.part < 65536
  long : h.long = s.size
  size : s.size ≤ 52
  full : h.last = true ∨ s.size = 52
theorem bytes_size (h : Hd) (s : ByteArray) : (h.bytes s).size = 12 + s.size := by
  unfold Hd.bytes
  simp only [ByteArray.size_append, be_size]
theorem block_size (h : Hd) (s : ByteArray) (hs : s.size ≤ 52) : (h.block s).size = 64 := by
  unfold Hd.block
  rw [ByteArray.size_append, zs_size, bytes_size]
  omega
theorem headB_block (h : Hd) (s : ByteArray) (ok : h.Ok s) : headB (h.block s) = (h, s, true) := by
  obtain ⟨o1, o2, o3, o4, o5, o6⟩ := ok
  obtain ⟨z, hz⟩ : ∃ z, z = zs (64 - (h.bytes s).size) := ⟨_, rfl⟩
  have hB : h.block s = be h.epoch 4 ++ (be h.group 4 ++ (be h.part 2 ++ (be h.last.toNat 1 ++ (be h.long 1 ++ (s ++ z))))) := by
    unfold Hd.block
    rw [← hz]
    unfold Hd.bytes
    simp only [ByteArray.append_assoc]
  have e1 : (h.block s).extract 0 4 = be h.epoch 4 := by rw [hB]; exact ByteArray.extract_append_eq_left (be_size _ _).symm
  have e2 : (h.block s).extract 4 8 = be h.group 4 := by rw [hB]; exact mid _ _ _ (be_size _ _).symm (by rw [be_size, be_size])
  have e3 : (h.block s).extract 8 10 = be h.part 2 := by
    rw [hB, ← ByteArray.append_assoc]
    exact mid _ _ _ (by rw [ByteArray.size_append, be_size, be_size]) (by rw [ByteArray.size_append, be_size, be_size, be_size])
  have e4 : bAt (h.block s) 10 = h.last.toNat := by
    rw [hB, ← ByteArray.append_assoc, ← ByteArray.append_assoc, bAt_mid _ _ _ (by simp only [ByteArray.size_append, be_size]) (by rw [be_size]; decide), bAt_be1]
    cases h.last <;> decide
  have e5 : bAt (h.block s) 11 = h.long := by
    rw [hB, ← ByteArray.append_assoc, ← ByteArray.append_assoc, ← ByteArray.append_assoc, bAt_mid _ _ _ (by simp only [ByteArray.size_append, be_size]) (by rw [be_size]; decide), bAt_be1]
    omega
  have e6 : (h.block s).extract 12 (12 + h.long) = s := by
    rw [hB, ← ByteArray.append_assoc, ← ByteArray.append_assoc, ← ByteArray.append_assoc, ← ByteArray.append_assoc]
    exact mid _ _ _ (by simp only [ByteArray.size_append, be_size]) (by simp only [ByteArray.size_append, be_size]; omega)
  have hd : hdOf (h.block s) = h := by
    unfold hdOf
    rw [e1, e2, e3, e4, e5, numB_be 4 _ o1, numB_be 4 _ o2, numB_be 2 _ o3]
    obtain ⟨a, b, c, l, n⟩ := h
    cases l <;> rfl
  unfold headB
  rw [if_neg (by
    unfold hdBad
    rw [e4, e5]
    rcases o6 with h1 | h1
    · rw [h1]; simp; omega
    · cases h.last <;> simp <;> omega), hd, e5, e6]
  simp

/-! ### records' bytes are read as the records -/
theorem packTo_cons (r : ByteArray) (l : List ByteArray) : packTo (r :: l) = recB r ++ packTo l := by
  have key : ∀ (l : List ByteArray) (p : ByteArray), l.foldl (fun p r => p ++ recB r) p = p ++ packTo l := by
    intro l
    induction l with
    | nil => intro p; exact (ByteArray.append_empty).symm
    | cons r l ih =>
      intro p
      rw [List.foldl_cons, ih]
      show _ = p ++ List.foldl _ _ _
      rw [List.foldl_cons, ih, ← ByteArray.append_assoc, ← ByteArray.append_assoc]
      congr 1
      rw [show (⟨#[]⟩ : ByteArray) = ByteArray.empty from rfl, ByteArray.append_empty]
  unfold packTo
  rw [List.foldl_cons, key]
  congr 1
theorem recs_packTo (l : List ByteArray) (h : short l = true) : recs (packTo l) = some l := by
  induction l with
  | nil => rw [recs, dif_pos (by rfl)]
  | cons r l ih =>
    obtain ⟨h1, h2⟩ : r.size ≤ 65535 ∧ short l = true := by simpa [short] using h
    have hp := packTo_cons r l
    have hs : (packTo (r :: l)).size = 2 + r.size + (packTo l).size := by rw [hp, ByteArray.size_append, recB_size]
    have e1 : numB ((packTo (r :: l)).extract 0 2) = r.size := by
      have : (packTo (r :: l)).extract 0 2 = be r.size 2 := by
        rw [hp]
        unfold recB
        rw [ByteArray.append_assoc]
        exact ByteArray.extract_append_eq_left (be_size _ _).symm
      rw [this, numB_be 2 _ (by omega)]
    have e2 : (packTo (r :: l)).extract 2 (2 + r.size) = r := by
      rw [hp]
      unfold recB
      rw [ByteArray.append_assoc]
      exact mid _ _ _ (be_size _ _).symm (by rw [be_size])
    have e3 : (packTo (r :: l)).extract (2 + r.size) (packTo (r :: l)).size = packTo l := by
      rw [hp]
      exact behind _ _ (recB_size r).symm rfl
    rw [recs, dif_neg (by omega), if_neg (by rw [e1]; omega), e1, e2, e3, ih h2]
    rfl

/-! ### a group's parts -/
theorem partOf_eq (s : ByteArray) (k : Nat) : partOf s k = s.extract (52 * k) (52 * k + 52) := by
  unfold partOf
  rw [ByteArray.extract_extract]
  ext1
  simp only [ByteArray.data_extract, ByteArray.size_extract]
  apply Array.ext
  · simp; omega
  · intro i h1 h2; simp
theorem partOf_size (s : ByteArray) (k : Nat) : (partOf s k).size = min (52 * k + 52) s.size - 52 * k := by rw [partOf_eq, ByteArray.size_extract]
theorem parts_snoc (s : ByteArray) (k : Nat) : s.extract 0 (52 * k) ++ partOf s k = s.extract 0 (52 * (k + 1)) := by
  rw [partOf_eq, Nat.mul_succ]
  have h := ByteArray.extract_append_extract (a := s) (i := 0) (j := 52 * k) (k := 52 * k + 52)
  rw [h]
  congr 1
  omega
theorem need_lt {n k : Nat} (h : k + 1 < needN n) : 52 * (k + 1) < n := by unfold needN at h; omega
theorem need_le (n : Nat) : n ≤ 52 * needN n := by unfold needN; omega
theorem need_pos (n : Nat) : 1 ≤ needN n := by unfold needN; omega
theorem hdAt_long (epoch group n : Nat) (s : ByteArray) (k : Nat) : (hdAt epoch group n s k).long = (partOf s k).size := by dsimp only [hdAt]
theorem hdAt_ok (epoch group : Nat) (s : ByteArray) (k : Nat) (he : epoch < 4294967296) (hg : group < 4294967296) (hn : needN s.size ≤ 256) (hk : k < needN s.size) : (hdAt epoch group (needN s.size) s k).Ok (partOf s k) := by
  refine ⟨he, hg, by show k < 65536; omega, hdAt_long _ _ _ _ _, by rw [partOf_size]; omega, ?_⟩
  by_cases h : k + 1 = needN s.size
  · left; show (k + 1 == needN s.size) = true; rw [h]; exact beq_self_eq_true _
  · right
    have := need_lt (n := s.size) (k := k) (by omega)
    rw [partOf_size]
    omega
/-- the group's blocks stand from a place on -/
def Stands (D : Dk) (side pos epoch group : Nat) (s : ByteArray) : Prop :=
  ∀ k, k < needN s.size → D.rd ((256 * side + (pos + k) : Nat) : Int) = ((hdAt epoch group (needN s.size) s k).block (partOf s k), 0)
theorem rdParts_stands {D : Dk} {side pos epoch group : Nat} {s : ByteArray} (h : Stands D side pos epoch group s) (he : epoch < 4294967296) (hg : group < 4294967296) (hn : needN s.size ≤ 256) (f : Nat) :
    ∀ k, k < needN s.size → needN s.size ≤ k + f → rdParts D side pos epoch group f (pos + k) (s.extract 0 (52 * k)) = some (s, needN s.size) := by
  induction f with
  | zero => intro k h1 h2; omega
  | succ f ih =>
    intro k h1 h2
    unfold rdParts
    rw [h k h1]
    rw [if_neg (by simp)]
    simp only [headB_block _ _ (hdAt_ok epoch group s k he hg hn h1)]
    rw [if_pos ⟨trivial, rfl, rfl, by show k = pos + k - pos; omega⟩, parts_snoc]
    by_cases hl : k + 1 = needN s.size
    · rw [if_pos (by show (k + 1 == needN s.size) = true; rw [hl]; exact beq_self_eq_true _)]
      have e1 : s.extract 0 (52 * (k + 1)) = s := by
        have := need_le s.size
        rw [hl]
        have e : s.extract 0 (52 * needN s.size) = s.extract 0 s.size := by
          ext1
          simp only [ByteArray.data_extract]
          apply Array.ext
          · have : s.data.size = s.size := rfl
            simp; omega
          · intro i h1 h2; simp
        rw [e, ByteArray.extract_zero_size]
      rw [e1]
      congr 2
      omega
    · rw [if_neg (by show ¬ (k + 1 == needN s.size) = true; simpa using hl)]
      exact ih (k + 1) (by omega) (by omega)
theorem rdGroup_stands {D : Dk} {side pos epoch group : Nat} {l : List ByteArray} (hl : short l = true) (h : Stands D side pos epoch group (packTo l)) (he : epoch < 4294967296) (hg : group < 4294967296)
    (hn : pos + needN (packTo l).size ≤ 256) : rdGroup D side pos epoch group = some (l, needN (packTo l).size) := by
  have h1 := rdParts_stands h he hg (by omega) (256 - pos) 0 (need_pos _) (by omega)
  unfold rdGroup
  have e0 : (packTo l).extract 0 (52 * 0) = (⟨#[]⟩ : ByteArray) := ByteArray.extract_same
  rw [e0, Nat.add_zero] at h1
  rw [h1]
  simp [recs_packTo l hl]

/-! ### what a write comes to -/
def gblks (base epoch group n : Nat) (s : ByteArray) (m : Nat) : List (Nat × ByteArray) := (List.range m).map fun j => (base + j, (hdAt epoch group n s j).block (partOf s j))
theorem gblks_succ (base epoch group n : Nat) (s : ByteArray) (m : Nat) : gblks base epoch group n s (m + 1) = gblks base epoch group n s m ++ [(base + m, (hdAt epoch group n s m).block (partOf s m))] := by
  simp [gblks, List.range_succ]
theorem gblks_length (base epoch group n : Nat) (s : ByteArray) (m : Nat) : (gblks base epoch group n s m).length = m := by simp [gblks]
theorem gblks_take (base epoch group n : Nat) (s : ByteArray) (m k : Nat) (h : k ≤ m) : (gblks base epoch group n s m).take k = gblks base epoch group n s k := by
  simp [gblks, ← List.map_take, List.take_range, Nat.min_eq_left h]
theorem gblks_get (base epoch group n : Nat) (s : ByteArray) (m k : Nat) : ((gblks base epoch group n s m)[k]?.map fun p => p.1) = if k < m then some (base + k) else none := by
  by_cases h : k < m
  · simp [gblks, h]
  · rw [if_neg h, List.getElem?_eq_none (by rw [gblks_length]; omega)]; rfl
theorem lookW_gblks (base epoch group n : Nat) (s : ByteArray) (m i : Nat) : lookW (gblks base epoch group n s m) i = if base ≤ i ∧ i < base + m then some ((hdAt epoch group n s (i - base)).block (partOf s (i - base))) else none := by
  induction m with
  | zero => rw [if_neg (by omega)]; rfl
  | succ m ih =>
    rw [gblks_succ, lookW_snoc, ih]
    by_cases h : base + m = i
    · subst h
      rw [if_pos rfl, if_pos (by omega)]
      have : base + m - base = m := by omega
      rw [this]
    · rw [if_neg h]
      by_cases h2 : base ≤ i ∧ i < base + m
      · rw [if_pos h2, if_pos (by omega)]
      · rw [if_neg h2, if_neg (by omega)]
theorem partOf_le (s : ByteArray) (k : Nat) : (partOf s k).size ≤ 52 := by rw [partOf_size]; omega

/-- behind k parts -/
def partsD (D : Dk) (base epoch group n : Nat) (s : ByteArray) (k : Nat) : Dk := { D with wait := D.wait ++ gblks base epoch group n s k, arm := max (D.arm - k) (-1) }
/-- the power went at one of them, or at the sync -/
def cutD (D : Dk) (base epoch group n : Nat) (s : ByteArray) (k : Nat) : Dk := { D with wait := D.wait ++ gblks base epoch group n s k, arm := -1, off := true }
theorem wrParts_at {D : Dk} (hoff : D.off = false) {side pos epoch group n : Nat} {s : ByteArray} (f : Nat) :
    ∀ k, 256 * side + pos + k + f ≤ 512 → ¬ (0 ≤ D.arm ∧ D.arm < k) → wrParts side pos epoch group n s f k (partsD D (256 * side + pos) epoch group n s k) =
      if 0 ≤ D.arm ∧ D.arm < ((k + f : Nat) : Int) then (21, cutD D (256 * side + pos) epoch group n s D.arm.toNat) else (0, partsD D (256 * side + pos) epoch group n s (k + f)) := by
  induction f with
  | zero => intro k h1 h2; rw [if_neg (by simpa using h2)]; rfl
  | succ f ih =>
    intro k h1 h2
    unfold wrParts
    by_cases ha : D.arm = k
    · have e : (partsD D (256 * side + pos) epoch group n s k).wr ((256 * side + pos + k : Nat) : Int) ((hdAt epoch group n s k).block (partOf s k)) = (21, cutD D (256 * side + pos) epoch group n s D.arm.toNat) := by
        unfold Dk.wr
        rw [if_neg (by simp [partsD, hoff]), if_neg (by rw [block_size _ _ (partOf_le s k)]; omega), if_pos (by show max (D.arm - k) (-1) = 0; omega)]
        have e1 : D.arm.toNat = k := by omega
        have e2 : max (max (D.arm - k) (-1) - 1) (-1) = -1 := by omega
        have e3 : (max (D.arm - k) (-1) == 0) = true := by rw [beq_iff_eq]; omega
        rw [e1]
        simp only [Dk.tick, partsD, cutD, e2, e3, Bool.or_true]
      rw [e]
      rw [if_pos (show 0 ≤ D.arm ∧ D.arm < ((k + (f + 1) : Nat) : Int) by omega)]
      rfl
    · have e : (partsD D (256 * side + pos) epoch group n s k).wr ((256 * side + pos + k : Nat) : Int) ((hdAt epoch group n s k).block (partOf s k)) = (0, partsD D (256 * side + pos) epoch group n s (k + 1)) := by
        unfold Dk.wr
        rw [if_neg (by simp [partsD, hoff]), if_neg (by rw [block_size _ _ (partOf_le s k)]; omega), if_neg (by show ¬ max (D.arm - k) (-1) = 0; omega)]
        have e2 : max (max (D.arm - k) (-1) - 1) (-1) = max (D.arm - ((k + 1 : Nat) : Int)) (-1) := by omega
        have e3 : (max (D.arm - k) (-1) == 0) = false := by rw [beq_eq_false_iff_ne]; omega
        simp only [Dk.tick, partsD, e2, e3, Bool.or_false, gblks_succ, List.append_assoc, Int.toNat_natCast]
      rw [e]
      have := ih (k + 1) (by omega) (by omega)
      rw [if_neg (by simp)]
      rw [this]
      have e4 : k + 1 + f = k + (f + 1) := by omega
      rw [e4]
/-- all is written and lasts -/
def doneD (D : Dk) (base epoch group n : Nat) (s : ByteArray) : Dk :=
  { (partsD D base epoch group n s n).tick.dones (D.wait ++ gblks base epoch group n s n) with wait := [] }
theorem wrGroup_eq {D : Dk} (hoff : D.off = false) (harm : -1 ≤ D.arm) {side pos epoch group : Nat} {s : ByteArray} (hb : 256 * side + pos + needN s.size ≤ 512) :
    wrGroup D side pos epoch group s = if 0 ≤ D.arm ∧ D.arm ≤ (needN s.size : Nat) then (21, cutD D (256 * side + pos) epoch group (needN s.size) s D.arm.toNat) else (0, doneD D (256 * side + pos) epoch group (needN s.size) s) := by
  have e0 : partsD D (256 * side + pos) epoch group (needN s.size) s 0 = D := by
    have : max (D.arm - ((0 : Nat) : Int)) (-1) = D.arm := by omega
    unfold partsD
    rw [this]
    simp [gblks]
  have h := wrParts_at hoff (side := side) (pos := pos) (epoch := epoch) (group := group) (n := needN s.size) (s := s) (needN s.size) 0 (by omega) (by omega)
  rw [e0, Nat.zero_add] at h
  unfold wrGroup
  rw [h]
  by_cases h1 : 0 ≤ D.arm ∧ D.arm < (needN s.size : Nat)
  · rw [if_pos h1, if_pos (show 0 ≤ D.arm ∧ D.arm ≤ (needN s.size : Nat) from ⟨h1.1, by omega⟩)]
    rfl
  · rw [if_neg h1, if_neg (by simp)]
    unfold Dk.sync
    rw [if_neg (by simp [partsD, hoff])]
    by_cases h2 : D.arm = (needN s.size : Nat)
    · rw [if_pos (by show max (D.arm - (needN s.size : Nat)) (-1) = 0; omega), if_pos (by omega)]
      have e1 : D.arm.toNat = needN s.size := by omega
      have e2 : max (max (D.arm - (needN s.size : Nat)) (-1) - 1) (-1) = -1 := by omega
      have e3 : (max (D.arm - (needN s.size : Nat)) (-1) == 0) = true := by rw [beq_iff_eq]; omega
      rw [e1]
      simp only [Dk.tick, partsD, cutD, e2, e3, Bool.or_true]
    · rw [if_neg (by show ¬ max (D.arm - (needN s.size : Nat)) (-1) = 0; omega), if_neg (by omega)]
      rfl

/-- nothing waits, all can be read -/
structure Live (D : Dk) : Prop where
  off : D.off = false
  wait : D.wait = []
  torn : ∀ k, D.torn k = false
theorem live_rd {D : Dk} (h : Live D) (k : Nat) (hk : k < 512) : D.rd k = (D.last k, 0) := by
  unfold Dk.rd
  rw [if_neg (by rw [h.off]; simp), if_neg (by omega), h.wait, lookW_nil, Int.toNat_natCast, h.torn k]
  rfl
theorem live_new : Live Dk.new := ⟨rfl, rfl, fun _ => rfl⟩
theorem live_armed {D : Dk} (h : Live D) (n : Int) : Live (D.armed n) := ⟨h.off, h.wait, h.torn⟩
theorem live_restart {D : Dk} (h : Live D) (n : Int) (t : Bool) : Live (D.restart n t) ∧ (D.restart n t).last = D.last := by
  have e : D.wait.take (keepN n D.wait.length) = [] := by rw [h.wait]; simp
  refine ⟨⟨rfl, rfl, fun k => ?_⟩, ?_⟩
  · simp only [Dk.restart, h.wait, dones_torn]
    simp [h.torn k]
  · funext k
    simp only [Dk.restart, dones_last, e]
    rfl
theorem live_done {D : Dk} (h : Live D) {base epoch group n : Nat} {s : ByteArray} (hne : ¬ (0 ≤ D.arm ∧ D.arm ≤ ((n : Nat) : Int))) : Live (doneD D base epoch group n s) ∧
    (∀ i, (doneD D base epoch group n s).last i = if base ≤ i ∧ i < base + n then (hdAt epoch group n s (i - base)).block (partOf s (i - base)) else D.last i) ∧
    (doneD D base epoch group n s).arm = max (D.arm - n - 1) (-1) := by
  have e3 : (max (D.arm - (n : Nat)) (-1) == 0) = false := by rw [beq_eq_false_iff_ne]; omega
  refine ⟨⟨?_, rfl, fun k => ?_⟩, fun i => ?_, ?_⟩
  · unfold doneD
    rw [show (∀ X : Dk, ({ X with wait := [] } : Dk).off = X.off) from fun _ => rfl, (dones_wait _ _).2.2]
    simp only [Dk.tick, partsD, h.off, e3, Bool.or_false]
  · unfold doneD
    rw [show (∀ X : Dk, ({ X with wait := [] } : Dk).torn k = X.torn k) from fun _ => rfl, dones_torn]
    simp only [Dk.tick, partsD, h.torn k, Bool.and_false]
  · unfold doneD
    rw [show (∀ X : Dk, ({ X with wait := [] } : Dk).last i = X.last i) from fun _ => rfl, dones_last, h.wait, List.nil_append, lookW_gblks]
    split <;> rfl
  · unfold doneD
    rw [show (∀ X : Dk, ({ X with wait := [] } : Dk).arm = X.arm) from fun _ => rfl, (dones_wait _ _).2.1]
    simp only [Dk.tick, partsD]
    omega
/-- behind a cut and a restart: k blocks of the group stand, the next may be torn, all else is as it was -/
theorem cut_rd {D : Dk} (h : Live D) {base epoch group n : Nat} {s : ByteArray} (m : Nat) (keep : Int) (t : Bool) : ∃ k, k ≤ m ∧ ∀ i : Nat, i < 512 → ((cutD D base epoch group n s m).restart keep t).rd i =
    (if t = true ∧ k < m ∧ i = base + k then (ByteArray.empty, 24)
    else if base ≤ i ∧ i < base + k then ((hdAt epoch group n s (i - base)).block (partOf s (i - base)), 0) else (D.last i, 0) : ByteArray × Int) := by
  have hw : (cutD D base epoch group n s m).wait = gblks base epoch group n s m := by unfold cutD; simp [h.wait]
  refine ⟨keepN keep m, Nat.min_le_right _ _, fun i hi => ?_⟩
  have hk : keepN keep m ≤ m := Nat.min_le_right _ _
  rw [restart_rd _ _ _ _ hi, hw, gblks_length, gblks_get, gblks_take _ _ _ _ _ _ _ hk, lookW_gblks]
  generalize keepN keep m = k at *
  by_cases h1 : t = true ∧ k < m ∧ i = base + k
  · rw [if_pos h1, if_pos ⟨h1.1, by rw [if_pos h1.2.1, h1.2.2]⟩]
  · rw [if_neg h1, if_neg (by
      rintro ⟨h2, h3⟩
      split at h3
      · exact h1 ⟨h2, by assumption, by injection h3 with h3; exact h3.symm⟩
      · cases h3)]
    have ht : (cutD D base epoch group n s m).torn i = false := h.torn i
    by_cases h2 : base ≤ i ∧ i < base + k
    · rw [if_pos h2, if_pos h2]
    · rw [if_neg h2, if_neg h2, ht]; rfl

/-! ### what is read where -/
def epOf (b : ByteArray) : Nat := numB (b.extract 0 4)
theorem headB_epoch (b : ByteArray) (h : (headB b).2.2 = true) : (headB b).1.epoch = epOf b := by
  unfold headB at h ⊢
  split
  · rename_i hb
    rw [if_pos hb] at h
    cases h
  · rfl
theorem epOf_block (h : Hd) (s : ByteArray) (he : h.epoch < 4294967296) : epOf (h.block s) = h.epoch := by
  have e1 : (h.block s).extract 0 4 = be h.epoch 4 := by
    unfold Hd.block Hd.bytes
    simp only [ByteArray.append_assoc]
    exact ByteArray.extract_append_eq_left (be_size _ _).symm
  unfold epOf
  rw [e1, numB_be 4 _ he]
theorem epOf_zs : epOf (zs 64) = 0 := by decide +kernel
/-- nothing of an epoch stands there -/
def Miss (D : Dk) (n epoch : Nat) : Prop := (D.rd (n : Int)).2 ≠ 0 ∨ epOf (D.rd (n : Int)).1 ≠ epoch
theorem rdParts_miss {D : Dk} {side pos epoch group i : Nat} {all : ByteArray} (h : Miss D (256 * side + i) epoch) (f : Nat) : rdParts D side pos epoch group f i all = none := by
  cases f with
  | zero => rfl
  | succ f =>
    unfold rdParts
    by_cases h0 : (D.rd ((256 * side + i : Nat) : Int)).2 ≠ 0
    · rw [if_pos h0]
    · rw [if_neg h0]
      simp only
      rw [if_neg]
      rintro ⟨h1, h2, -⟩
      rw [headB_epoch _ h1] at h2
      exact h.elim h0 (fun h => h h2)
theorem rdGroup_miss {D : Dk} {side pos epoch group : Nat} (h : Miss D (256 * side + pos) epoch) : rdGroup D side pos epoch group = none := by
  unfold rdGroup
  rw [rdParts_miss h]
  rfl
theorem rdGroup_full {D : Dk} {side epoch group : Nat} : rdGroup D side 256 epoch group = none := rfl
/-- k of n parts stand, and then nothing of the epoch -/
theorem rdGroup_cut {D : Dk} {side pos epoch group n : Nat} {s : ByteArray} (he : epoch < 4294967296) (hg : group < 4294967296) (hn : n = needN s.size) (hp : pos + n ≤ 256) (k : Nat) (hk : k < n)
    (h : ∀ j, j < k → D.rd ((256 * side + (pos + j) : Nat) : Int) = ((hdAt epoch group n s j).block (partOf s j), 0)) (hm : Miss D (256 * side + (pos + k)) epoch) : rdGroup D side pos epoch group = none := by
  subst hn
  have key : ∀ f j, j ≤ k → k ≤ j + f → ∀ all, rdParts D side pos epoch group f (pos + j) all = none := by
    intro f
    induction f with
    | zero => intro j h1 h2 all; rfl
    | succ f ih =>
      intro j h1 h2 all
      by_cases hj : j = k
      · subst hj
        exact rdParts_miss hm _
      · unfold rdParts
        rw [h j (by omega), if_neg (by simp)]
        simp only [headB_block _ _ (hdAt_ok epoch group s j he hg (by omega) (by omega))]
        split
        · rw [if_neg (by show ¬ (j + 1 == needN s.size) = true; rw [beq_iff_eq]; omega)]
          exact ih (j + 1) (by omega) (by omega) _
        · rfl
  unfold rdGroup
  have := key (256 - pos) 0 (by omega) (by omega) ⟨#[]⟩
  rw [Nat.add_zero] at this
  rw [this]
  rfl
theorem rdGroup_head {D : Dk} {side pos epoch group : Nat} (h : (rdGroup D side pos epoch group).isSome = true) : (D.rd ((256 * side + pos : Nat) : Int)).2 = 0 ∧ epOf (D.rd ((256 * side + pos : Nat) : Int)).1 = epoch := by
  apply Classical.byContradiction
  intro hn
  rw [rdGroup_miss] at h
  · cases h
  · by_cases h1 : (D.rd ((256 * side + pos : Nat) : Int)).2 = 0
    · exact .inr fun h2 => hn ⟨h1, h2⟩
    · exact .inl h1

/-! ### what Open comes to -/
/-- a side that is not taken -/
def NoSide (D : Dk) (side epoch : Nat) : Prop := (D.rd ((256 * side : Nat) : Int)).2 ≠ 0 ∨ epOf (D.rd ((256 * side : Nat) : Int)).1 < epoch ∨ rdGroup D side 0 (epOf (D.rd ((256 * side : Nat) : Int)).1) 0 = none
theorem pick_no {D : Dk} {L : Lg} {side : Nat} (h : NoSide D side L.epoch) : pickOne D L side = L := by
  unfold pickOne
  by_cases h0 : (D.rd ((256 * side : Nat) : Int)).2 ≠ 0
  · rw [if_pos h0]
  · rw [if_neg h0]
    simp only
    rw [if_neg]
    rintro ⟨h1, h2⟩
    rcases h with h | h | h
    · exact h0 h
    · have : L.epoch < epOf (D.rd ((256 * side : Nat) : Int)).1 := h2
      omega
    · have h1' : (rdGroup D side 0 (epOf (D.rd ((256 * side : Nat) : Int)).1) 0).isSome = true := h1
      rw [h] at h1'
      cases h1'
theorem pick_yes {D : Dk} {L : Lg} {side epoch : Nat} (h : (rdGroup D side 0 epoch 0).isSome = true) (hL : L.epoch < epoch) : pickOne D L side = { L with side := side, epoch := epoch } := by
  obtain ⟨h1, h2⟩ := rdGroup_head h
  rw [Nat.add_zero] at h1 h2
  unfold pickOne
  rw [if_neg (by omega)]
  unfold epOf at h2
  simp only [h2]
  rw [if_pos ⟨h, hL⟩]
theorem pick_none (D : Dk) (epoch : Nat) (h : NoSide D 0 epoch) (h0 : 0 < epoch) : ∃ side ep, pickOne D Lg.none 0 = ⟨side, ep, 0, 0, false⟩ ∧ ep < epoch := by
  unfold pickOne
  split
  · exact ⟨0, 0, rfl, h0⟩
  · rename_i h1
    simp only
    split
    · rename_i h2
      refine ⟨0, _, rfl, ?_⟩
      rcases h with h | h | h
      · exact absurd h h1
      · exact h
      · have h3 := h2.1
        have h' : rdGroup D 0 0 (numB ((D.rd ((256 * 0 : Nat) : Int)).1.extract 0 4)) 0 = none := h
        rw [h'] at h3
        cases h3
    · exact ⟨0, 0, rfl, h0⟩
theorem picked_eq {D : Dk} {side epoch : Nat} (hs : side ≤ 1) (h0 : 0 < epoch) (h : (rdGroup D side 0 epoch 0).isSome = true) (ho : NoSide D (1 - side) epoch) : picked D = ⟨side, epoch, 0, 0, false⟩ := by
  unfold picked
  rcases (show side = 0 ∨ side = 1 by omega) with rfl | rfl
  · rw [pick_yes h h0]
    exact pick_no ho
  · obtain ⟨s, ep, h1, h2⟩ := pick_none D epoch ho h0
    rw [h1]
    exact pick_yes h h2
theorem opened_eq {D : Dk} {L : Lg} {all : List ByteArray} (hs : L.side ≤ 1) (h0 : 0 < L.epoch) (h : (rdGroup D L.side 0 L.epoch 0).isSome = true) (ho : NoSide D (1 - L.side) L.epoch)
    (hal : ∃ c, c ≤ 256 ∧ ∀ f, groupsFrom D (f + c) ⟨L.side, L.epoch, 0, 0, false⟩ [] = groupsFrom D f L all) (hstop : L.pos = 256 ∨ rdGroup D L.side L.pos L.epoch L.group = none) : opened D = (L, all) := by
  unfold opened
  rw [picked_eq hs h0 h ho]
  obtain ⟨c, hc, hf⟩ := hal
  have e : 257 = (256 - c) + 1 + c := by omega
  rw [e, hf]
  unfold groupsFrom
  by_cases hg : 0 < L.epoch ∧ L.pos < 256
  · rw [if_pos hg]
    rcases hstop with h1 | h1
    · omega
    · rw [h1]
  · rw [if_neg hg]
theorem opened_none {D : Dk} (h : ∀ side, side ≤ 1 → NoSide D side 0 ∨ epOf (D.rd ((256 * side : Nat) : Int)).1 = 0) : opened D = (Lg.none, []) := by
  have key : ∀ side, side ≤ 1 → pickOne D Lg.none side = Lg.none := by
    intro side hs
    rcases h side hs with h1 | h1
    · exact pick_no h1
    · unfold pickOne
      split
      · rfl
      · simp only
        rw [if_neg]
        rintro ⟨-, h2⟩
        have h2 : 0 < epOf (D.rd ((256 * side : Nat) : Int)).1 := h2
        omega
  unfold opened picked
  rw [key 0 (by omega), key 1 (by omega)]
  rfl

/-! ### what is kept from call to call -/
def SameTo (D D' : Dk) (side pos : Nat) : Prop := ∀ i, i < pos → D'.rd ((256 * side + i : Nat) : Int) = D.rd ((256 * side + i : Nat) : Int)
structure Keeps (D : Dk) (L : Lg) (all : List ByteArray) : Prop where
  live : Live D
  over : L.over = false
  side : L.side ≤ 1
  pos : L.pos ≤ 256
  group : L.group ≤ L.pos
  low : ∀ k, k < 512 → epOf (D.last k) ≤ L.epoch
  rest : ∀ k, k < 512 → ¬ (256 * L.side ≤ k ∧ k < 256 * L.side + L.pos) → L.epoch = 0 ∨ epOf (D.last k) < L.epoch
  none : L.epoch = 0 → L = Lg.none ∧ all = []
  head : L.epoch ≠ 0 → 0 < L.pos ∧ ∀ D', SameTo D D' L.side L.pos → (rdGroup D' L.side 0 L.epoch 0).isSome = true
  along : L.epoch ≠ 0 → ∀ D', SameTo D D' L.side L.pos → ∃ c, c ≤ L.group ∧ ∀ f, groupsFrom D' (f + c) ⟨L.side, L.epoch, 0, 0, false⟩ [] = groupsFrom D' f L all
theorem keeps_new : Keeps Dk.new Lg.none [] :=
  ⟨live_new, rfl, by decide, by decide, by decide, fun k _ => by show epOf (zs 64) ≤ 0; rw [epOf_zs]; exact Nat.le_refl _, fun _ _ _ => .inl rfl, fun _ => ⟨rfl, rfl⟩, fun h => absurd rfl h, fun h => absurd rfl h⟩
theorem keeps_armed {D : Dk} {L : Lg} {all : List ByteArray} (h : Keeps D L all) (n : Int) : Keeps (D.armed n) L all :=
  ⟨live_armed h.live n, h.over, h.side, h.pos, h.group, h.low, h.rest, h.none, h.head, h.along⟩
theorem keeps_restart {D : Dk} {L : Lg} {all : List ByteArray} (h : Keeps D L all) (n : Int) (t : Bool) : Keeps (D.restart n t) L all := by
  obtain ⟨h1, h2⟩ := live_restart h.live n t
  have hs : ∀ D', SameTo (D.restart n t) D' L.side L.pos → SameTo D D' L.side L.pos := by
    intro D' hD i hi
    have := h.side
    have := h.pos
    rw [hD i hi, live_rd h1 _ (by omega), live_rd h.live _ (by omega), h2]
  exact ⟨h1, h.over, h.side, h.pos, h.group, by rw [h2]; exact h.low, by rw [h2]; exact h.rest, h.none, fun h0 => ⟨(h.head h0).1, fun D' hD => (h.head h0).2 D' (hs D' hD)⟩, fun h0 D' hD => h.along h0 D' (hs D' hD)⟩
theorem sameTo_refl (D : Dk) (side pos : Nat) : SameTo D D side pos := fun _ _ => rfl
/-- what is opened on a disk that keeps a log -/
theorem keeps_opened {D : Dk} {L : Lg} {all : List ByteArray} (h : Keeps D L all) : opened D = (L, all) := by
  by_cases h0 : L.epoch = 0
  · obtain ⟨rfl, rfl⟩ := h.none h0
    refine opened_none fun side hs => .inr ?_
    rw [live_rd h.live _ (by omega)]
    have : epOf (D.last (256 * side)) ≤ 0 := h.low _ (by omega)
    simp only
    omega
  · have hs := h.side
    have hp := h.pos
    obtain ⟨hpos, hhead⟩ := h.head h0
    obtain ⟨c, hc, hf⟩ := h.along h0 D (sameTo_refl _ _ _)
    refine opened_eq hs (by omega) (hhead D (sameTo_refl _ _ _)) ?_ ⟨c, Nat.le_trans hc (Nat.le_trans h.group hp), hf⟩ ?_
    · rcases h.rest (256 * (1 - L.side)) (by omega) (by omega) with h1 | h1
      · exact absurd h1 h0
      · exact .inr (.inl (by rw [live_rd h.live _ (by omega)]; exact h1))
    · by_cases h256 : L.pos = 256
      · exact .inl h256
      · right
        apply rdGroup_miss
        rcases h.rest (256 * L.side + L.pos) (by omega) (by omega) with h1 | h1
        · exact absurd h1 h0
        · right
          rw [live_rd h.live _ (by omega)]
          simp only
          omega

/-! ### only what is read counts -/
def SameRd (D D' : Dk) : Prop := ∀ i : Nat, i < 512 → D'.rd (i : Int) = D.rd (i : Int)
theorem rdParts_congr {D D' : Dk} (h : SameRd D D') {side pos epoch group : Nat} (hs : side ≤ 1) (f : Nat) : ∀ i all, i + f ≤ 256 → rdParts D' side pos epoch group f i all = rdParts D side pos epoch group f i all := by
  induction f with
  | zero => intro i all _; rfl
  | succ f ih =>
    intro i all hi
    unfold rdParts
    rw [h (256 * side + i) (by omega)]
    simp only [ih (i + 1) _ (show i + 1 + f ≤ 256 by omega)]
theorem rdGroup_congr {D D' : Dk} (h : SameRd D D') {side pos epoch group : Nat} (hs : side ≤ 1) (hp : pos ≤ 256) : rdGroup D' side pos epoch group = rdGroup D side pos epoch group := by
  unfold rdGroup
  rw [rdParts_congr h hs _ _ _ (by omega)]
theorem pickOne_congr {D D' : Dk} (h : SameRd D D') {L : Lg} {side : Nat} (hs : side ≤ 1) : pickOne D' L side = pickOne D L side := by
  unfold pickOne
  rw [h (256 * side) (by omega)]
  simp only [rdGroup_congr h hs (Nat.zero_le 256)]
theorem pickOne_side {D : Dk} {L : Lg} {side : Nat} (hL : L.side ≤ 1 ∧ L.pos ≤ 256) (hs : side ≤ 1) : (pickOne D L side).side ≤ 1 ∧ (pickOne D L side).pos ≤ 256 := by
  unfold pickOne
  split
  · exact hL
  · simp only
    split
    · exact ⟨hs, hL.2⟩
    · exact hL
theorem groupsFrom_congr {D D' : Dk} (h : SameRd D D') (f : Nat) : ∀ L out, L.side ≤ 1 → L.pos ≤ 256 → groupsFrom D' f L out = groupsFrom D f L out := by
  induction f with
  | zero => intro L out _ _; rfl
  | succ f ih =>
    intro L out hs hp
    unfold groupsFrom
    rw [rdGroup_congr h hs hp]
    split
    · split
      · rfl
      · rename_i p hg
        obtain ⟨h1, h2⟩ := rdGroup_n hp hg
        exact ih _ _ hs h2
    · rfl
theorem opened_congr {D D' : Dk} (h : SameRd D D') : opened D' = opened D := by
  have e : picked D' = picked D := by
    unfold picked
    rw [pickOne_congr h (by omega), pickOne_congr h (by omega)]
  have hp : (picked D).side ≤ 1 ∧ (picked D).pos ≤ 256 := pickOne_side (pickOne_side ⟨by decide, by decide⟩ (by omega)) (by omega)
  unfold opened
  rw [e]
  exact groupsFrom_congr h _ _ _ hp.1 hp.2

/-! ### a group more -/
theorem stands_of {D' : Dk} {side pos epoch group : Nat} {s : ByteArray} (h : ∀ i : Nat, 256 * side + pos ≤ i → i < 256 * side + pos + needN s.size → D'.rd (i : Int) = ((hdAt epoch group (needN s.size) s (i - (256 * side + pos))).block (partOf s (i - (256 * side + pos))), 0)) : Stands D' side pos epoch group s := by
  intro k hk
  have := h (256 * side + (pos + k)) (by omega) (by omega)
  have e : 256 * side + (pos + k) - (256 * side + pos) = k := by omega
  rw [e] at this
  exact this
theorem keeps_append {D : Dk} {L : Lg} {all l : List ByteArray} (h : Keeps D L all) (h0 : L.epoch ≠ 0) (he : L.epoch < 4294967296) (hl : short l = true) (hn : L.pos + needN (packTo l).size ≤ 256)
    (hne : ¬ (0 ≤ D.arm ∧ D.arm ≤ ((needN (packTo l).size : Nat) : Int))) : Keeps (doneD D (256 * L.side + L.pos) L.epoch L.group (needN (packTo l).size) (packTo l)) { L with pos := L.pos + needN (packTo l).size, group := L.group + 1, over := false } (all ++ l) := by
  have hs := h.side
  have hg := h.group
  have hn1 := need_pos (packTo l).size
  obtain ⟨k1, k2, -⟩ := live_done h.live (base := 256 * L.side + L.pos) (epoch := L.epoch) (group := L.group) (n := needN (packTo l).size) (s := packTo l) hne
  obtain ⟨hp0, hhead⟩ := h.head h0
  have hsame : ∀ D', SameTo (doneD D (256 * L.side + L.pos) L.epoch L.group (needN (packTo l).size) (packTo l)) D' L.side (L.pos + needN (packTo l).size) → SameTo D D' L.side L.pos := by
    intro D' hD i hi
    rw [hD i (by omega), live_rd k1 _ (by omega), live_rd h.live _ (by omega), k2, if_neg (by omega)]
  have hst : ∀ D', SameTo (doneD D (256 * L.side + L.pos) L.epoch L.group (needN (packTo l).size) (packTo l)) D' L.side (L.pos + needN (packTo l).size) → Stands D' L.side L.pos L.epoch L.group (packTo l) := by
    intro D' hD
    refine stands_of fun i h1 h2 => ?_
    obtain ⟨j, rfl⟩ : ∃ j, i = 256 * L.side + j := ⟨i - 256 * L.side, by omega⟩
    rw [hD j (by omega), live_rd k1 _ (by omega), k2, if_pos ⟨h1, h2⟩]
  refine ⟨k1, rfl, hs, hn, by show L.group + 1 ≤ L.pos + _; omega, fun k hk => ?_, fun k hk hne => ?_, fun e => absurd e h0, fun _ => ⟨by show 0 < L.pos + _; omega, fun D' hD => hhead D' (hsame D' hD)⟩, fun _ D' hD => ?_⟩
  · rw [k2]
    split
    · rw [epOf_block _ _ (by exact he)]; exact Nat.le_refl _
    · exact h.low k hk
  · have hne : ¬ (256 * L.side ≤ k ∧ k < 256 * L.side + (L.pos + needN (packTo l).size)) := hne
    rw [k2, if_neg (by omega)]
    exact h.rest k hk (by omega)
  · obtain ⟨c, hc, hf⟩ := h.along h0 D' (hsame D' hD)
    refine ⟨c + 1, by show c + 1 ≤ L.group + 1; omega, fun f => ?_⟩
    have e : f + (c + 1) = f + 1 + c := by omega
    rw [e, hf]
    conv => lhs; unfold groupsFrom
    rw [if_pos (by omega), rdGroup_stands hl (hst D' hD) he (by omega) hn]
    rw [h.over]
theorem keeps_renew {D : Dk} {L : Lg} {all l : List ByteArray} (h : Keeps D L all) {side : Nat} (hs : side ≤ 1) (he : L.epoch + 1 < 4294967296) (hl : short l = true) (hn : needN (packTo l).size ≤ 256)
    (hne : ¬ (0 ≤ D.arm ∧ D.arm ≤ ((needN (packTo l).size : Nat) : Int))) : Keeps (doneD D (256 * side + 0) (L.epoch + 1) 0 (needN (packTo l).size) (packTo l)) ⟨side, L.epoch + 1, needN (packTo l).size, 1, false⟩ l := by
  have hn1 := need_pos (packTo l).size
  obtain ⟨k1, k2, -⟩ := live_done h.live (base := 256 * side + 0) (epoch := L.epoch + 1) (group := 0) (n := needN (packTo l).size) (s := packTo l) hne
  have hst : ∀ D', SameTo (doneD D (256 * side + 0) (L.epoch + 1) 0 (needN (packTo l).size) (packTo l)) D' side (needN (packTo l).size) → Stands D' side 0 (L.epoch + 1) 0 (packTo l) := by
    intro D' hD
    refine stands_of fun i h1 h2 => ?_
    obtain ⟨j, rfl⟩ : ∃ j, i = 256 * side + j := ⟨i - 256 * side, by omega⟩
    rw [hD j (by omega), live_rd k1 _ (by omega), k2, if_pos ⟨h1, h2⟩]
  have hgr : ∀ D', SameTo (doneD D (256 * side + 0) (L.epoch + 1) 0 (needN (packTo l).size) (packTo l)) D' side (needN (packTo l).size) → rdGroup D' side 0 (L.epoch + 1) 0 = some (l, needN (packTo l).size) :=
    fun D' hD => rdGroup_stands hl (hst D' hD) he (by omega) (by omega)
  refine ⟨k1, rfl, hs, hn, hn1, fun k hk => ?_, fun k hk hne => ?_, fun e => absurd e (Nat.succ_ne_zero _), fun _ => ⟨hn1, fun D' hD => by rw [hgr D' hD]; rfl⟩, fun _ D' hD => ?_⟩
  · show _ ≤ L.epoch + 1
    rw [k2]
    split
    · rw [epOf_block _ _ (by exact he)]; exact Nat.le_refl _
    · have := h.low k hk; omega
  · have hne : ¬ (256 * side ≤ k ∧ k < 256 * side + needN (packTo l).size) := hne
    right
    show _ < L.epoch + 1
    rw [k2, if_neg (by omega)]
    have := h.low k hk; omega
  · refine ⟨1, Nat.le_refl _, fun f => ?_⟩
    conv => lhs; unfold groupsFrom
    rw [if_pos ⟨by show 0 < L.epoch + 1; omega, by show 0 < 256; omega⟩, hgr D' hD]
    show groupsFrom D' f ⟨side, L.epoch + 1, 0 + needN (packTo l).size, 0 + 1, false⟩ ([] ++ l) = _
    rw [Nat.zero_add, Nat.zero_add, List.nil_append]

/-! ### the calls -/
def renewL (D : Dk) (L : Lg) (l : List ByteArray) : Int × Dk × Lg :=
  if L.over = true then (23, D, L)
  else if short l = false ∨ 256 < needN (packTo l).size then (20, D, L)
  else
    let side := if L.epoch = 0 then 0 else 1 - L.side
    let r := wrGroup D side 0 (L.epoch + 1) 0 (packTo l)
    if r.1 ≠ 0 then (r.1, r.2, { L with over := true }) else (0, r.2, ⟨side, L.epoch + 1, needN (packTo l).size, 1, false⟩)
def appendL (D : Dk) (L : Lg) (l : List ByteArray) : Int × Dk × Lg :=
  if L.over = true then (23, D, L)
  else if L.epoch = 0 then renewL D L l
  else if short l = false ∨ 256 - L.pos < needN (packTo l).size then (20, D, L)
  else
    let r := wrGroup D L.side L.pos L.epoch L.group (packTo l)
    if r.1 ≠ 0 then (r.1, r.2, { L with over := true }) else (0, r.2, { L with pos := L.pos + needN (packTo l).size, group := L.group + 1, over := false })
/-- behind a cut write, and a restart: what was there, or all of it -/
def CutOr (D' : Dk) (all now : List ByteArray) : Prop := ∀ keep t, (opened (D'.restart keep t)).2 = all ∨ (opened (D'.restart keep t)).2 = now
theorem renew_says {D : Dk} {L : Lg} {all : List ByteArray} (h : Keeps D L all) (harm : -1 ≤ D.arm) (he : L.epoch + 1 < 4294967296) (l : List ByteArray) :
    ((renewL D L l).1 = 0 ∧ Keeps (renewL D L l).2.1 (renewL D L l).2.2 l ∧ (renewL D L l).2.2.epoch = L.epoch + 1 ∧ (D.arm = -1 → (renewL D L l).2.1.arm = -1)) ∨ renewL D L l = (20, D, L) ∨ ((renewL D L l).1 = 21 ∧ D.arm ≠ -1 ∧ CutOr (renewL D L l).2.1 all l) := by
  unfold renewL
  rw [if_neg (by rw [h.over]; simp)]
  by_cases hl : short l = false ∨ 256 < needN (packTo l).size
  · rw [if_pos hl]; exact .inr (.inl rfl)
  rw [if_neg hl]
  have hl1 : short l = true := by cases hh : short l <;> simp_all
  have hn : needN (packTo l).size ≤ 256 := by omega
  obtain ⟨side, hsd⟩ : ∃ s, s = if L.epoch = 0 then 0 else 1 - L.side := ⟨_, rfl⟩
  have hs : side ≤ 1 := by rw [hsd]; split <;> omega
  have hLs := h.side
  simp only [← hsd]
  rw [wrGroup_eq h.live.off harm (by omega)]
  by_cases ha : 0 ≤ D.arm ∧ D.arm ≤ ((needN (packTo l).size : Nat) : Int)
  · rw [if_pos ha]
    right; right
    refine ⟨rfl, by omega, fun keep t => ?_⟩
    show (opened ((cutD D (256 * side + 0) (L.epoch + 1) 0 (needN (packTo l).size) (packTo l) D.arm.toNat).restart keep t)).2 = all ∨ (opened ((cutD D (256 * side + 0) (L.epoch + 1) 0 (needN (packTo l).size) (packTo l) D.arm.toNat).restart keep t)).2 = l
    obtain ⟨k, hk, hrd⟩ := cut_rd h.live (base := 256 * side + 0) (epoch := L.epoch + 1) (group := 0) (n := needN (packTo l).size) (s := packTo l) D.arm.toNat keep t
    generalize (cutD D (256 * side + 0) (L.epoch + 1) 0 (needN (packTo l).size) (packTo l) D.arm.toNat).restart keep t = X at *
    by_cases hkn : k = needN (packTo l).size
    · right
      have hK := keeps_renew (keeps_armed h (-1)) (side := side) hs he hl1 hn (by intro hh; have := hh.1; simp [Dk.armed] at this)
      obtain ⟨q1, q2, -⟩ := live_done (live_armed h.live (-1)) (base := 256 * side + 0) (epoch := L.epoch + 1) (group := 0) (n := needN (packTo l).size) (s := packTo l) (by intro hh; have := hh.1; simp [Dk.armed] at this)
      rw [opened_congr (D := doneD (D.armed (-1)) (256 * side + 0) (L.epoch + 1) 0 (needN (packTo l).size) (packTo l)), keeps_opened hK]
      intro i hi
      rw [hrd i hi, if_neg (by omega), live_rd q1 _ hi, q2, hkn]
      split <;> rfl
    · left
      have hlt : k < needN (packTo l).size := by omega
      have hcut : rdGroup X side 0 (L.epoch + 1) 0 = none := by
        refine rdGroup_cut he (by omega) rfl (by omega) k hlt (fun j hj => ?_) ?_
        · rw [hrd _ (by omega), if_neg (by omega), if_pos (by omega)]
          have e : 256 * side + (0 + j) - (256 * side + 0) = j := by omega
          rw [e]
        · unfold Miss
          rw [hrd _ (by omega)]
          split
          · left; decide
          · rw [if_neg (by omega)]
            right
            have := h.low (256 * side + (0 + k)) (by omega)
            simp only
            omega
      have hno : ∀ ep, ep ≤ L.epoch → NoSide X side ep ∨ (epOf (X.rd ((256 * side : Nat) : Int)).1 ≤ L.epoch ∧ X.rd ((256 * side : Nat) : Int) = (D.last (256 * side), 0)) := by
        intro ep hep
        unfold NoSide
        rw [hrd _ (by omega)]
        split
        · left; left; decide
        · split
          · left; right; right
            simp only
            rw [epOf_block _ _ (by exact he)]
            exact hcut
          · right
            exact ⟨h.low _ (by omega), rfl⟩
      by_cases h0 : L.epoch = 0
      · obtain ⟨rfl, rfl⟩ := h.none h0
        have hs0 : side = 0 := by rw [hsd, if_pos h0]
        subst hs0
        rw [opened_none]
        · intro sd hsd
          rcases (show sd = 0 ∨ sd = 1 by omega) with rfl | rfl
          · rcases hno 0 (Nat.zero_le _) with h1 | h1
            · exact .inl h1
            · right; have h2 : epOf (X.rd ((256 * 0 : Nat) : Int)).1 ≤ 0 := h1.1; omega
          · right
            rw [hrd _ (by omega), if_neg (by omega), if_neg (by omega)]
            have h2 : epOf (D.last (256 * 1)) ≤ 0 := h.low _ (by omega)
            simp only
            omega
      · have hs1 : side = 1 - L.side := by rw [hsd, if_neg h0]
        have hpos := h.pos
        have hsame : SameTo D X L.side L.pos := by
          intro i hi
          rw [hrd _ (by omega), if_neg (by omega), if_neg (by omega), live_rd h.live _ (by omega)]
        obtain ⟨hp0, hhead⟩ := h.head h0
        obtain ⟨c, hc, hf⟩ := h.along h0 X hsame
        have hg := h.group
        rw [opened_eq (L := L) (all := all) hLs (by omega) (hhead X hsame) ?_ ⟨c, by omega, hf⟩ ?_]
        · rw [← hs1]
          rcases hno L.epoch (Nat.le_refl _) with h1 | h1
          · exact h1
          · right; left
            rw [h1.2]
            rcases h.rest (256 * side) (by omega) (by omega) with h2 | h2
            · exact absurd h2 h0
            · exact h2
        · by_cases h256 : L.pos = 256
          · exact .inl h256
          · right
            apply rdGroup_miss
            right
            rw [hrd _ (by omega), if_neg (by omega), if_neg (by omega)]
            rcases h.rest (256 * L.side + L.pos) (by omega) (by omega) with h1 | h1
            · exact absurd h1 h0
            · simp only; omega
  · rw [if_neg ha]
    left
    refine ⟨rfl, keeps_renew h hs he hl1 hn ha, rfl, fun hm => ?_⟩
    show (doneD D (256 * side + 0) (L.epoch + 1) 0 (needN (packTo l).size) (packTo l)).arm = -1
    rw [(live_done h.live ha).2.2, hm]
    omega
theorem append_says {D : Dk} {L : Lg} {all : List ByteArray} (h : Keeps D L all) (harm : -1 ≤ D.arm) (he : L.epoch + 1 < 4294967296) (l : List ByteArray) :
    ((appendL D L l).1 = 0 ∧ Keeps (appendL D L l).2.1 (appendL D L l).2.2 (all ++ l) ∧ (appendL D L l).2.2.epoch ≤ L.epoch + 1 ∧ (D.arm = -1 → (appendL D L l).2.1.arm = -1)) ∨ appendL D L l = (20, D, L) ∨ ((appendL D L l).1 = 21 ∧ D.arm ≠ -1 ∧ CutOr (appendL D L l).2.1 all (all ++ l)) := by
  by_cases h0 : L.epoch = 0
  · have e : appendL D L l = renewL D L l := by
      unfold appendL
      rw [if_neg (by rw [h.over]; simp), if_pos h0]
    rw [e]
    obtain ⟨-, rfl⟩ := h.none h0
    rcases renew_says h harm he l with ⟨h1, h2, h3, h4⟩ | h1 | ⟨h1, h2, h3⟩
    · exact .inl ⟨h1, h2, Nat.le_of_eq h3, h4⟩
    · exact .inr (.inl h1)
    · exact .inr (.inr ⟨h1, h2, h3⟩)
  unfold appendL
  rw [if_neg (by rw [h.over]; simp), if_neg h0]
  by_cases hl : short l = false ∨ 256 - L.pos < needN (packTo l).size
  · rw [if_pos hl]; exact .inr (.inl rfl)
  rw [if_neg hl]
  have hl1 : short l = true := by cases hh : short l <;> simp_all
  have hs := h.side
  have hpos := h.pos
  have hg := h.group
  have hn : L.pos + needN (packTo l).size ≤ 256 := by omega
  simp only
  rw [wrGroup_eq h.live.off harm (by omega)]
  by_cases ha : 0 ≤ D.arm ∧ D.arm ≤ ((needN (packTo l).size : Nat) : Int)
  · rw [if_pos ha]
    right; right
    refine ⟨rfl, by omega, fun keep t => ?_⟩
    show (opened ((cutD D (256 * L.side + L.pos) L.epoch L.group (needN (packTo l).size) (packTo l) D.arm.toNat).restart keep t)).2 = all ∨ (opened ((cutD D (256 * L.side + L.pos) L.epoch L.group (needN (packTo l).size) (packTo l) D.arm.toNat).restart keep t)).2 = all ++ l
    obtain ⟨k, hk, hrd⟩ := cut_rd h.live (base := 256 * L.side + L.pos) (epoch := L.epoch) (group := L.group) (n := needN (packTo l).size) (s := packTo l) D.arm.toNat keep t
    generalize (cutD D (256 * L.side + L.pos) L.epoch L.group (needN (packTo l).size) (packTo l) D.arm.toNat).restart keep t = X at *
    by_cases hkn : k = needN (packTo l).size
    · right
      have hK := keeps_append (keeps_armed h (-1)) h0 (by omega) hl1 hn (by intro hh; have := hh.1; simp [Dk.armed] at this)
      obtain ⟨q1, q2, -⟩ := live_done (live_armed h.live (-1)) (base := 256 * L.side + L.pos) (epoch := L.epoch) (group := L.group) (n := needN (packTo l).size) (s := packTo l) (by intro hh; have := hh.1; simp [Dk.armed] at this)
      rw [opened_congr (D := doneD (D.armed (-1)) (256 * L.side + L.pos) L.epoch L.group (needN (packTo l).size) (packTo l)), keeps_opened hK]
      intro i hi
      rw [hrd i hi, if_neg (by omega), live_rd q1 _ hi, q2, hkn]
      split <;> rfl
    · left
      have hlt : k < needN (packTo l).size := by omega
      have hcut : rdGroup X L.side L.pos L.epoch L.group = none := by
        refine rdGroup_cut (by omega) (by omega) rfl (by omega) k hlt (fun j hj => ?_) ?_
        · rw [hrd _ (by omega), if_neg (by omega), if_pos (by omega)]
          have e : 256 * L.side + (L.pos + j) - (256 * L.side + L.pos) = j := by omega
          rw [e]
        · unfold Miss
          rw [hrd _ (by omega)]
          split
          · left; decide
          · rw [if_neg (by omega)]
            right
            rcases h.rest (256 * L.side + (L.pos + k)) (by omega) (by omega) with h1 | h1
            · exact absurd h1 h0
            · simp only; omega
      have hsame : SameTo D X L.side L.pos := by
        intro i hi
        rw [hrd _ (by omega), if_neg (by omega), if_neg (by omega), live_rd h.live _ (by omega)]
      obtain ⟨hp0, hhead⟩ := h.head h0
      obtain ⟨c, hc, hf⟩ := h.along h0 X hsame
      rw [opened_eq (L := L) (all := all) hs (by omega) (hhead X hsame) ?_ ⟨c, by omega, hf⟩ (.inr hcut)]
      right; left
      rw [hrd _ (by omega), if_neg (by omega), if_neg (by omega)]
      rcases h.rest (256 * (1 - L.side)) (by omega) (by omega) with h1 | h1
      · exact absurd h1 h0
      · exact h1
  · rw [if_neg ha]
    left
    refine ⟨rfl, keeps_append h h0 (by omega) hl1 hn ha, Nat.le_succ _, fun hm => ?_⟩
    show (doneD D (256 * L.side + L.pos) L.epoch L.group (needN (packTo l).size) (packTo l)).arm = -1
    rw [(live_done h.live ha).2.2, hm]
    omega
end Go.Proofs.Ytddaiihhhajieaa
