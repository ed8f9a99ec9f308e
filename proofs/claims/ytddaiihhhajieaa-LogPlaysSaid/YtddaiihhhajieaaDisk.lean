/- The disk of the program and the disk of the document as plain data, and what their calls do: no Go in sight. -/
import Init
namespace Go.Proofs.Ytddaiihhhajieaa

def zs (n : Nat) : ByteArray := ⟨⟨List.replicate n 0⟩⟩

/-- The program's disk: what lasts, which blocks are torn, what waits, the armed count, whether the power is gone. -/
structure Dk where
  last : Nat → ByteArray
  torn : Nat → Bool
  wait : List (Nat × ByteArray)
  arm : Int
  off : Bool
  /-- how often a block was torn: a bound on the map's entries -/
  turns : Nat

def Dk.new : Dk := ⟨fun _ => zs 64, fun _ => false, [], -1, false, 0⟩
def Dk.Fine (D : Dk) : Prop := -1 ≤ D.arm ∧ D.arm ≤ 9223372036854775807 ∧ ∀ p ∈ D.wait, p.1 < 512
def Dk.tick (D : Dk) : Dk := { D with arm := max (D.arm - 1) (-1), off := D.off || D.arm == 0 }
def Dk.wr (D : Dk) (n : Int) (s : ByteArray) : Int × Dk :=
  if D.off = true then (21, D)
  else if n < 0 ∨ 512 ≤ n ∨ s.size ≠ 64 then (1, D)
  else if D.arm = 0 then (21, D.tick)
  else (0, { D.tick with wait := D.wait ++ [(n.toNat, s)] })
def Dk.done (D : Dk) (p : Nat × ByteArray) : Dk :=
  { D with last := fun k => if k = p.1 then p.2 else D.last k, torn := fun k => if k = p.1 then false else D.torn k }
def Dk.dones (D : Dk) (l : List (Nat × ByteArray)) : Dk := l.foldl Dk.done D
def Dk.sync (D : Dk) : Int × Dk :=
  if D.off = true then (21, D) else if D.arm = 0 then (21, D.tick) else (0, { D.tick.dones D.wait with wait := [] })
def lookW (l : List (Nat × ByteArray)) (n : Nat) : Option ByteArray := (l.reverse.find? (fun p => p.1 == n)).map (fun p => p.2)
def Dk.rd (D : Dk) (n : Int) : ByteArray × Int :=
  if D.off = true then (ByteArray.empty, 21)
  else if n < 0 ∨ 512 ≤ n then (ByteArray.empty, 1)
  else match lookW D.wait n.toNat with
    | some s => (s, 0)
    | none => if D.torn n.toNat = true then (ByteArray.empty, 24) else (D.last n.toNat, 0)
def keepN (keep : Int) (n : Nat) : Nat := min (max keep 0).toNat n
def Dk.restart (D : Dk) (keep : Int) (torn : Bool) : Dk :=
  let k := keepN keep D.wait.length
  let D1 := D.dones (D.wait.take k)
  { D1 with torn := fun j => if torn = true ∧ (D.wait[k]?.map (fun p => p.1)) = some j then true else D1.torn j, wait := [], arm := -1, off := false, turns := D.turns + 1 }
def Dk.armed (D : Dk) (n : Int) : Dk := { D with arm := max n (-1) }


theorem zs_size (n : Nat) : (zs n).size = n := by simp [zs, ByteArray.size]

theorem lookW_nil (n : Nat) : lookW [] n = none := rfl
theorem lookW_append (l m : List (Nat × ByteArray)) (n : Nat) : lookW (l ++ m) n = (lookW m n).or (lookW l n) := by
  unfold lookW
  rw [List.reverse_append, List.find?_append]
  cases (m.reverse.find? (fun p => p.1 == n)) <;> simp
theorem lookW_one (p : Nat × ByteArray) (n : Nat) : lookW [p] n = if p.1 = n then some p.2 else none := by
  unfold lookW
  by_cases h : p.1 = n <;> simp [h]
theorem lookW_snoc (l : List (Nat × ByteArray)) (p : Nat × ByteArray) (n : Nat) : lookW (l ++ [p]) n = if p.1 = n then some p.2 else lookW l n := by
  rw [lookW_append, lookW_one]
  split <;> simp
theorem lookW_cons (l : List (Nat × ByteArray)) (p : Nat × ByteArray) (n : Nat) : lookW (p :: l) n = (lookW l n).or (if p.1 = n then some p.2 else none) := by
  rw [← lookW_one, ← lookW_append]; rfl

/-- What a run of writes leaves: the last of each block. -/
theorem dones_last (l : List (Nat × ByteArray)) (k : Nat) : ∀ D : Dk, (D.dones l).last k = (lookW l k).getD (D.last k) := by
  induction l with
  | nil => intro D; rfl
  | cons p l ih =>
    intro D
    show ((D.done p).dones l).last k = _
    rw [ih, lookW_cons]
    cases lookW l k with
    | some s => simp
    | none =>
      by_cases h : p.1 = k
      · subst h; simp [Dk.done]
      · simp [Dk.done, h, Ne.symm h]
theorem dones_torn (l : List (Nat × ByteArray)) (k : Nat) : ∀ D : Dk, (D.dones l).torn k = (!(lookW l k).isSome && D.torn k) := by
  induction l with
  | nil => intro D; simp [Dk.dones, lookW]
  | cons p l ih =>
    intro D
    show ((D.done p).dones l).torn k = _
    rw [ih, lookW_cons]
    cases lookW l k with
    | some s => simp
    | none =>
      by_cases h : p.1 = k
      · subst h; simp [Dk.done]
      · simp [Dk.done, h, Ne.symm h]
theorem dones_wait (l : List (Nat × ByteArray)) : ∀ D : Dk, (D.dones l).wait = D.wait ∧ (D.dones l).arm = D.arm ∧ (D.dones l).off = D.off := by
  induction l with
  | nil => exact fun D => ⟨rfl, rfl, rfl⟩
  | cons p l ih => exact fun D => ih (D.done p)

theorem dones_turns (l : List (Nat × ByteArray)) : ∀ D : Dk, (D.dones l).turns = D.turns := by
  induction l with
  | nil => exact fun D => rfl
  | cons p l ih => exact fun D => ih (D.done p)

theorem lookW_none {l : List (Nat × ByteArray)} {n : Nat} (h : ∀ p ∈ l, p.1 ≠ n) : lookW l n = none := by
  induction l with
  | nil => rfl
  | cons p l ih =>
    rw [lookW_cons, ih (fun q hq => h q (List.mem_cons_of_mem _ hq)), if_neg (h p List.mem_cons_self)]; rfl

/-- looking from the end -/
theorem lookW_hit (l : List (Nat × ByteArray)) (n k : Nat) (hk : k < l.length) (h : (l[k]'hk).1 = n) (ha : ∀ j (hj : j < l.length), k < j → (l[j]'hj).1 ≠ n) : lookW l n = some (l[k]'hk).2 := by
  have e : l = l.take k ++ l[k] :: l.drop (k + 1) := by rw [List.getElem_cons_drop, List.take_append_drop]
  have hn : lookW (l.drop (k + 1)) n = none := by
    refine lookW_none fun p hp => ?_
    obtain ⟨j, hj, rfl⟩ := List.getElem_of_mem hp
    simp only [List.getElem_drop]
    rw [List.length_drop] at hj
    exact ha _ (by omega) (by omega)
  have e2 : lookW l n = lookW (l.take k ++ l[k] :: l.drop (k + 1)) n := by rw [← e]
  rw [e2, lookW_append, lookW_cons, hn, if_pos h]
  rfl
theorem lookW_miss (l : List (Nat × ByteArray)) (n : Nat) (ha : ∀ j (hj : j < l.length), (l[j]'hj).1 ≠ n) : lookW l n = none :=
  lookW_none fun p hp => by obtain ⟨j, hj, rfl⟩ := List.getElem_of_mem hp; exact ha j hj

/-! ### the letters' blocks -/
def blk (c : Nat) : ByteArray := ⟨⟨List.replicate 64 (UInt8.ofNat c)⟩⟩
theorem blk_size (c : Nat) : (blk c).size = 64 := by simp [blk, ByteArray.size]
theorem blk_zero : blk 0 = zs 64 := rfl

/-- the first writes of DiskFirst -/
def firsts (n : Nat) : List (Nat × ByteArray) := (List.range n).map fun j => (j, blk (97 + j % 26))
theorem firsts_succ (n : Nat) : firsts (n + 1) = firsts n ++ [(n, blk (97 + n % 26))] := by simp [firsts, List.range_succ]
theorem firsts_length (n : Nat) : (firsts n).length = n := by simp [firsts]
theorem firsts_take (n k : Nat) (h : k ≤ n) : (firsts n).take k = firsts k := by
  simp [firsts, ← List.map_take, List.take_range, Nat.min_eq_left h]
theorem firsts_get (n k : Nat) (h : k < n) : (firsts n)[k]? = some (k, blk (97 + k % 26)) := by simp [firsts, h]
theorem lookW_firsts (n k : Nat) : lookW (firsts n) k = if k < n then some (blk (97 + k % 26)) else none := by
  induction n with
  | zero => rfl
  | succ n ih =>
    rw [firsts_succ, lookW_snoc, ih]
    by_cases h : n = k
    · subst h; simp
    · by_cases h2 : k < n
      · simp [h, h2, show k < n + 1 by omega]
      · simp [h, h2, show ¬ k < n + 1 by omega]

def firstD (n : Nat) : Dk := { Dk.new with wait := firsts n }
theorem firstD_wr (n : Nat) (h : n < 512) : (firstD n).wr n (blk (97 + n % 26)) = (0, firstD (n + 1)) := by
  unfold Dk.wr
  rw [if_neg (by simp [firstD, Dk.new]), if_neg (by rw [blk_size]; omega), if_neg (by simp [firstD, Dk.new])]
  have e : max ((-1 : Int) - 1) (-1) = -1 := by decide
  simp only [firstD, Dk.new, Dk.tick, firsts_succ, e, Int.toNat_natCast]
  rfl
/-- a read behind a restart -/
theorem restart_rd (D : Dk) (keep : Int) (torn : Bool) (i : Nat) (hi : i < 512) : (D.restart keep torn).rd i =
    (if torn = true ∧ (D.wait[keepN keep D.wait.length]?.map (fun p => p.1)) = some i then (ByteArray.empty, 24)
    else match lookW (D.wait.take (keepN keep D.wait.length)) i with
      | some s => (s, 0)
      | none => if D.torn i = true then (ByteArray.empty, 24) else (D.last i, 0) : ByteArray × Int) := by
  unfold Dk.rd
  rw [if_neg (by simp [Dk.restart]), if_neg (by omega), Int.toNat_natCast]
  simp only [Dk.restart, lookW_nil, dones_last, dones_torn]
  by_cases h : torn = true ∧ (D.wait[keepN keep D.wait.length]?.map (fun p => p.1)) = some i
  · rw [if_pos h, if_pos h]; rfl
  · rw [if_neg h, if_neg h]
    cases lookW (D.wait.take (keepN keep D.wait.length)) i <;> simp
theorem firstD_rd (n : Nat) (keep : Int) (torn : Bool) (i : Nat) (h : i < n) (hn : n ≤ 512) : ((firstD n).restart keep torn).rd i =
    if (i : Int) < min (max keep 0) n then (blk (97 + i % 26), 0) else if (i : Int) = min (max keep 0) n ∧ torn = true then (ByteArray.empty, 24) else (zs 64, 0) := by
  have hk : keepN keep n ≤ n := Nat.min_le_right _ _
  have hkk : ((keepN keep n : Nat) : Int) = min (max keep 0) n := by unfold keepN; omega
  rw [restart_rd _ _ _ _ (by omega)]
  simp only [firstD, firsts_length, Dk.new]
  rw [← hkk]
  generalize keepN keep n = k at *
  rw [firsts_take n k hk, lookW_firsts]
  have hg : ((firsts n)[k]?.map (fun p => p.1)) = if k < n then some k else none := by
    by_cases h4 : k < n
    · rw [firsts_get n k h4, if_pos h4]; rfl
    · rw [List.getElem?_eq_none (by rw [firsts_length]; omega), if_neg h4]; rfl
  rw [hg]
  by_cases h1 : i < k
  · rw [if_neg (by split <;> simp; omega), if_pos h1, if_pos (by omega)]
  · rw [if_neg h1, if_neg (show ¬ (i : Int) < k by omega)]
    by_cases h2 : i = k
    · subst h2; rw [if_pos h]; cases torn <;> simp
    · rw [if_neg (by split <;> simp; omega), if_neg (by omega)]; simp

/-! ### DiskArmed -/
def armW (n : Nat) : List (Nat × ByteArray) := (List.range n).map fun j => (j, blk 120)
theorem armW_succ (n : Nat) : armW (n + 1) = armW n ++ [(n, blk 120)] := by simp [armW, List.range_succ]
/-- behind i writes, the power to go ahead of the n-th -/
def armD (n i : Nat) : Dk := { Dk.new with arm := max ((n : Int) - i) (-1), wait := armW (min i n), off := decide (n < i) }
theorem armD_zero (n : Nat) : Dk.new.armed n = armD n 0 := by
  have e : max (n : Int) (-1) = n := by omega
  simp [armD, Dk.armed, Dk.new, armW, e]
theorem armD_wr (n i : Nat) (h : i < 512) : (armD n i).wr i (blk 120) = (if i < n then 0 else 21, armD n (i + 1)) := by
  unfold Dk.wr
  by_cases h1 : n < i
  · rw [if_pos (by simp [armD, h1]), if_neg (by omega)]
    simp only [armD, Prod.mk.injEq, true_and]
    have e1 : max ((n : Int) - i) (-1) = max ((n : Int) - ((i + 1 : Nat) : Int)) (-1) := by omega
    have e2 : min i n = min (i + 1) n := by omega
    rw [e1, e2]; simp [h1, show n < i + 1 by omega]
  · rw [if_neg (by simp [armD]; omega), if_neg (by rw [blk_size]; omega)]
    by_cases h2 : i < n
    · rw [if_neg (by simp [armD]; omega), if_pos h2]
      have e1 : max (max ((n : Int) - i) (-1) - 1) (-1) = max ((n : Int) - ((i + 1 : Nat) : Int)) (-1) := by omega
      have e2 : min i n = i := by omega
      have e3 : min (i + 1) n = i + 1 := by omega
      have e4 : (max ((n : Int) - i) (-1) == 0) = false := by rw [beq_eq_false_iff_ne]; omega
      simp only [armD, Dk.tick, e1, e2, e3, e4, armW_succ, Int.toNat_natCast]
      simp; omega
    · have : i = n := by omega
      subst this
      rw [if_pos (by simp only [armD]; omega), if_neg h2]
      have e1 : max (max ((i : Int) - i) (-1) - 1) (-1) = max ((i : Int) - ((i + 1 : Nat) : Int)) (-1) := by omega
      have e4 : (max ((i : Int) - i) (-1) == 0) = true := by rw [beq_iff_eq]; omega
      have e3 : min (i + 1) i = i := by omega
      simp only [armD, Dk.tick, e1, e4, e3]
      simp

/-- what is read where nothing is torn -/
theorem rd_fine (D : Dk) (i : Nat) (hi : i < 512) (ho : D.off = false) (ht : D.torn i = false) : (D.rd i).2 = 0 := by
  unfold Dk.rd
  rw [if_neg (by simp [ho]), if_neg (by omega), Int.toNat_natCast]
  split <;> simp [ht]
theorem rd_dead (D : Dk) (i : Int) (ho : D.off = true) : D.rd i = (ByteArray.empty, 21) := by
  unfold Dk.rd
  rw [if_pos ho]
theorem restart_fine (D : Dk) (keep : Int) (ht : ∀ i, D.torn i = false) (i : Nat) : (D.restart keep false).torn i = false := by
  simp [Dk.restart, dones_torn, ht]
theorem sync_fine (D : Dk) (ho : D.off = false) (ha : D.arm = -1) : D.sync = (0, { D.tick.dones D.wait with wait := [] }) := by
  unfold Dk.sync
  rw [if_neg (by simp [ho]), if_neg (by omega)]

end Go.Proofs.Ytddaiihhhajieaa
