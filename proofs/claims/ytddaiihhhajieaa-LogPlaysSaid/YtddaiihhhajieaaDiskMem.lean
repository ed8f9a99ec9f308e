/- How the program's disk lies in memory, and what a store into one of its fields, or a change of its map, does to it. -/
import Derived.Test.YtddaiihhhajieaaMem
import Derived.Test.YtddaiihhhajieaaDisk
namespace Go.Proofs.Ytddaiihhhajieaa
open Go.RowKit Go.Maps

theorem law3 : Keyed Try.prog 3 := int_keyed Try.underlying3
theorem zero4 (w : World) : (zeroValue 4).run Try.prog w = .ok (.bool false) w := by kernel_rfl
theorem nat_wf (n : Nat) (h : n < 512) : (Lit.int .i64 (n : Int)).wf = true := WalkArith.wf_i64 (by omega)
theorem key3 (n : Nat) (h : n < 512) : keyOf Try.prog 3 (.int .i64 (n : Int)) = some (.int .i64 (n : Int)) := keyOf_int_mk Try.underlying3 (nat_wf n h)

def putsV (l : List (Nat × ByteArray)) : List Value := l.flatMap fun p => [.int .i64 (p.1 : Int), .string p.2]
theorem putsV_length (l : List (Nat × ByteArray)) : (putsV l).length = l.length * 2 := by
  induction l with
  | nil => rfl
  | cons p l ih => simp only [putsV, List.flatMap_cons, List.length_append, List.length_cons, List.length_nil] at *; omega
theorem putsV_append (l m : List (Nat × ByteArray)) : putsV (l ++ m) = putsV l ++ putsV m := by simp [putsV]
theorem putsV_at (l : List (Nat × ByteArray)) (k : Nat) (h : k < l.length) : (putsV l)[k * 2]? = some (.int .i64 ((l[k]'h).1 : Int)) ∧ (putsV l)[k * 2 + 1]? = some (.string (l[k]'h).2) := by
  induction l generalizing k with
  | nil => simp at h
  | cons p l ih =>
    cases k with
    | zero => exact ⟨rfl, rfl⟩
    | succ k =>
      have h' : k < l.length := by simpa using h
      have := ih k h'
      simpa [putsV, Nat.succ_mul, Nat.add_assoc] using this

/-- An element that reads as a bool's datum IS that bool. -/
theorem plainElem_bool_inv {H : Type} {P : Program} {e : TypeId} (he : P.underlying e = some .bool) {v : Value} {z : DataW H × List MemPlace} (h : plainElem P e v = some z) : ∃ b, v = .bool b ∧ z = (.lit (.bool b), []) := by
  unfold plainElem at h
  rw [he] at h
  cases v <;> simp at h
  exact ⟨_, rfl, h.symm⟩

/-- The cells of a disk's block. -/
structure DC (D : Dk) (m : Nat) (wv : Value) (cs : Array Value) : Prop where
  size : cs.size = 516
  last : ∀ k, k < 512 → cs[k]? = some (.string (D.last k))
  torn : cs[512]? = some (.map (some m))
  wait : cs[513]? = some wv
  arm : cs[514]? = some (.int .i64 D.arm)
  off : cs[515]? = some (.bool D.off)

def TornIs (w : World) (m : Nat) (D : Dk) : Prop :=
  ∃ T : DataW Unit, w.ownsMap Try.prog 3 (plainElem Try.prog 4) m D.turns T ∧ ∀ k : Nat, k < 512 → T.atKey (.int .i64 (k : Int)) (.lit (.bool false)) = .lit (.bool (D.torn k))

structure DiskAt (w : World) (d m : Nat) (wv : Value) (D : Dk) : Prop where
  cells : ∃ cs, Blk w d 97 cs ∧ DC D m wv cs
  map : TornIs w m D
  own : w.ownsRow 0 100 2 wv D.wait.length (putsV D.wait)
  fine : D.Fine

def dfoot (d m : Nat) (wv : Value) : Foot := fun k => k = d ∨ k = m ∨ wv.ownBlock = some k
/-- The disk at block d, all of whose blocks are those of F. -/
def IsDisk (w : World) (d : Nat) (F : Foot) (D : Dk) : Prop := ∃ m wv, DiskAt w d m wv D ∧ ∀ k, F k ↔ dfoot d m wv k

section
variable {w w' : World} {d m : Nat} {wv : Value} {D : Dk} {F : Foot}

theorem TornIs.blk (h : TornIs w m D) : ∃ es c, w.heap[m]? = some (.map es c) := by
  obtain ⟨T, ⟨es, c, hb, _⟩, _⟩ := h
  exact ⟨es, c, hb⟩
theorem TornIs.stay (h : TornIs w m D) (hk : w'.heap[m]? = w.heap[m]?) : TornIs w' m D := by
  obtain ⟨T, ⟨es, c, hb, r⟩, ht⟩ := h
  exact ⟨T, ⟨es, c, hk.trans hb, r⟩, ht⟩
theorem TornIs.of (h : TornIs w m D) {D' : Dk} (h1 : D'.torn = D.torn) (h2 : D'.turns = D.turns) : TornIs w m D' := by
  obtain ⟨T, ho, ht⟩ := h
  exact ⟨T, by rw [h2]; exact ho, fun k hk => by rw [h1]; exact ht k hk⟩

theorem DiskAt.lt_d (h : DiskAt w d m wv D) : d < w.heap.size := by obtain ⟨cs, hb, _⟩ := h.cells; exact hb.lt
theorem DiskAt.lt_m (h : DiskAt w d m wv D) : m < w.heap.size := by obtain ⟨es, c, hb⟩ := h.map.blk; exact (Array.getElem?_eq_some_iff.1 hb).1
theorem DiskAt.ne_m (h : DiskAt w d m wv D) : d ≠ m := by obtain ⟨cs, hb, _⟩ := h.cells; obtain ⟨es, c, hm⟩ := h.map.blk; exact hb.ne_map hm
theorem DiskAt.ne_own (h : DiskAt w d m wv D) : wv.ownBlock ≠ some d := by obtain ⟨cs, hb, _⟩ := h.cells; exact hb.ne_own h.own (by decide)
theorem DiskAt.m_own (h : DiskAt w d m wv D) : wv.ownBlock ≠ some m := by obtain ⟨es, c, hm⟩ := h.map.blk; exact own_ne_map h.own hm
theorem DiskAt.lt (h : DiskAt w d m wv D) : ∀ k, dfoot d m wv k → k < w.heap.size := by
  rintro k (rfl | rfl | hk)
  · exact h.lt_d
  · exact h.lt_m
  · exact own_lt h.own k hk
theorem DiskAt.stay (h : DiskAt w d m wv D) (hk : ∀ k, dfoot d m wv k → w'.heap[k]? = w.heap[k]?) : DiskAt w' d m wv D := by
  obtain ⟨cs, hb, hc⟩ := h.cells
  exact ⟨⟨cs, hb.stay (hk d (.inl rfl)), hc⟩, h.map.stay (hk m (.inr (.inl rfl))), own_stay h.own (fun g hg => hk g (.inr (.inr hg))), h.fine⟩
theorem DiskAt.drew (h : DiskAt w d m wv D) : DiskAt w.drew d m wv D := h.stay fun _ _ => rfl
theorem DiskAt.alloc (h : DiskAt w d m wv D) (o : Obj) : DiskAt (w.alloc o) d m wv D := h.stay fun k hk => Below.heap_alloc w o k (h.lt k hk)
theorem DiskAt.below (h : DiskAt w d m wv D) (hb : Below w.heap.size w w') : DiskAt w' d m wv D := h.stay fun k hk => hb.block k (h.lt k hk)
/-- a store into the struct's block -/
theorem DiskAt.set (h : DiskAt w d m wv D) (i : Nat) (v : Value) {D' : Dk} {wv' : Value} (hc : ∀ cs, DC D m wv cs → DC D' m wv' (cs.setIfInBounds i v)) (h1 : D'.torn = D.torn) (h2 : D'.turns = D.turns)
    (ho : w.ownsRow 0 100 2 wv' D'.wait.length (putsV D'.wait)) (hne : wv'.ownBlock ≠ some d) (hf : D'.Fine) : DiskAt (w.setCell ⟨d, i, none⟩ v) d m wv' D' := by
  obtain ⟨cs, hb, hcs⟩ := h.cells
  refine ⟨⟨_, hb.set_ i v, hc cs hcs⟩, (h.map.stay (Below.heap_setCell _ _ _ _ h.ne_m.symm)).of h1 h2, own_stay ho (fun g hg => Below.heap_setCell _ _ _ _ ?_), hf⟩
  rintro rfl
  exact hne hg
theorem DC.set_last {cs : Array Value} (h : DC D m wv cs) (i : Nat) (hi : i < 512) (s : ByteArray) : DC { D with last := fun k => if k = i then s else D.last k } m wv (cs.setIfInBounds i (.string s)) := by
  have hs := h.size
  refine ⟨by simpa using hs, fun k hk => ?_, ?_, ?_, ?_, ?_⟩
  · rw [Array.getElem?_setIfInBounds]
    by_cases e : i = k
    · subst e; rw [if_pos rfl, if_pos (by omega)]; simp
    · rw [if_neg e, h.last k hk]; simp [Ne.symm e]
  all_goals rw [Array.getElem?_setIfInBounds, if_neg (by omega)]
  · exact h.torn
  · exact h.wait
  · exact h.arm
  · exact h.off
theorem DC.set_wait {cs : Array Value} (h : DC D m wv cs) (v : Value) (l : List (Nat × ByteArray)) : DC { D with wait := l } m v (cs.setIfInBounds 513 v) := by
  have hs := h.size
  refine ⟨by simpa using hs, fun k hk => ?_, ?_, ?_, ?_, ?_⟩
  · rw [Array.getElem?_setIfInBounds, if_neg (by omega)]; exact h.last k hk
  · rw [Array.getElem?_setIfInBounds, if_neg (by omega)]; exact h.torn
  · rw [Array.getElem?_setIfInBounds, if_pos rfl, if_pos (by omega)]
  · rw [Array.getElem?_setIfInBounds, if_neg (by omega)]; exact h.arm
  · rw [Array.getElem?_setIfInBounds, if_neg (by omega)]; exact h.off
theorem DC.set_arm {cs : Array Value} (h : DC D m wv cs) (x : Int) : DC { D with arm := x } m wv (cs.setIfInBounds 514 (.int .i64 x)) := by
  have hs := h.size
  refine ⟨by simpa using hs, fun k hk => ?_, ?_, ?_, ?_, ?_⟩
  · rw [Array.getElem?_setIfInBounds, if_neg (by omega)]; exact h.last k hk
  · rw [Array.getElem?_setIfInBounds, if_neg (by omega)]; exact h.torn
  · rw [Array.getElem?_setIfInBounds, if_neg (by omega)]; exact h.wait
  · rw [Array.getElem?_setIfInBounds, if_pos rfl, if_pos (by omega)]
  · rw [Array.getElem?_setIfInBounds, if_neg (by omega)]; exact h.off
theorem DC.set_off {cs : Array Value} (h : DC D m wv cs) (x : Bool) : DC { D with off := x } m wv (cs.setIfInBounds 515 (.bool x)) := by
  have hs := h.size
  refine ⟨by simpa using hs, fun k hk => ?_, ?_, ?_, ?_, ?_⟩
  · rw [Array.getElem?_setIfInBounds, if_neg (by omega)]; exact h.last k hk
  · rw [Array.getElem?_setIfInBounds, if_neg (by omega)]; exact h.torn
  · rw [Array.getElem?_setIfInBounds, if_neg (by omega)]; exact h.wait
  · rw [Array.getElem?_setIfInBounds, if_neg (by omega)]; exact h.arm
  · rw [Array.getElem?_setIfInBounds, if_pos rfl, if_pos (by omega)]

theorem DiskAt.set_off (h : DiskAt w d m wv D) (x : Bool) : DiskAt (w.setCell ⟨d, 515, none⟩ (.bool x)) d m wv { D with off := x } :=
  h.set _ _ (fun _ hc => hc.set_off x) rfl rfl h.own h.ne_own h.fine
theorem DiskAt.set_arm (h : DiskAt w d m wv D) (x : Int) (h1 : -1 ≤ x) (h2 : x ≤ 9223372036854775807) : DiskAt (w.setCell ⟨d, 514, none⟩ (.int .i64 x)) d m wv { D with arm := x } :=
  h.set _ _ (fun _ hc => hc.set_arm x) rfl rfl h.own h.ne_own ⟨h1, h2, h.fine.2.2⟩
theorem DiskAt.set_last (h : DiskAt w d m wv D) (i : Nat) (hi : i < 512) (s : ByteArray) : DiskAt (w.setCell ⟨d, i, none⟩ (.string s)) d m wv { D with last := fun k => if k = i then s else D.last k } :=
  h.set _ _ (fun _ hc => hc.set_last i hi s) rfl rfl h.own h.ne_own h.fine
theorem DiskAt.set_wait (h : DiskAt w d m wv D) (v : Value) (l : List (Nat × ByteArray)) (ho : w.ownsRow 0 100 2 v l.length (putsV l)) (hl : ∀ p ∈ l, p.1 < 512) : DiskAt (w.setCell ⟨d, 513, none⟩ v) d m v { D with wait := l } := by
  obtain ⟨cs, hb, _⟩ := h.cells
  exact h.set _ _ (fun _ hc => hc.set_wait v l) rfl rfl ho (hb.ne_own ho (by decide)) ⟨h.fine.1, h.fine.2.1, hl⟩
/-- what the walk reads -/
theorem DiskAt.c_last (h : DiskAt w d m wv D) (k : Nat) (hk : k < 512) : w.cell? ⟨d, k, none⟩ = some (.string (D.last k)) := by obtain ⟨cs, hb, hc⟩ := h.cells; rw [hb.cell]; exact hc.last k hk
theorem DiskAt.c_torn (h : DiskAt w d m wv D) : w.cell? ⟨d, 512, none⟩ = some (.map (some m)) := by obtain ⟨cs, hb, hc⟩ := h.cells; rw [hb.cell]; exact hc.torn
theorem DiskAt.c_wait (h : DiskAt w d m wv D) : w.cell? ⟨d, 513, none⟩ = some wv := by obtain ⟨cs, hb, hc⟩ := h.cells; rw [hb.cell]; exact hc.wait
theorem DiskAt.c_arm (h : DiskAt w d m wv D) : w.cell? ⟨d, 514, none⟩ = some (.int .i64 D.arm) := by obtain ⟨cs, hb, hc⟩ := h.cells; rw [hb.cell]; exact hc.arm
theorem DiskAt.c_off (h : DiskAt w d m wv D) : w.cell? ⟨d, 515, none⟩ = some (.bool D.off) := by obtain ⟨cs, hb, hc⟩ := h.cells; rw [hb.cell]; exact hc.off
theorem DiskAt.fz (h : DiskAt w d m wv D) (k : Nat) : w.frozen? ⟨d, k, none⟩ = false := by obtain ⟨cs, hb, hc⟩ := h.cells; exact hb.frozen k

/-- the map has turned -/
theorem DiskAt.turned (h : DiskAt w d m wv D) (ht : w.mapTurned w' m) (f : Nat → Bool) (n : Nat) (T : DataW Unit) (ho : w'.ownsMap Try.prog 3 (plainElem Try.prog 4) m n T)
    (hT : ∀ k : Nat, k < 512 → T.atKey (.int .i64 (k : Int)) (.lit (.bool false)) = .lit (.bool (f k))) : DiskAt w' d m wv { D with torn := f, turns := n } := by
  obtain ⟨cs, hb, hc⟩ := h.cells
  refine ⟨⟨cs, hb.turned ht, hc.size, hc.last, hc.torn, hc.wait, hc.arm, hc.off⟩, ⟨T, ho, hT⟩, h.own.kept ht.grown ?_, h.fine⟩
  exact .inr h.m_own
/-- behind an append to what waits: the struct as it was, and then with the new value in its field -/
theorem DiskAt.appended (h : DiskAt w d m wv D) {row : Option Nat} (hr : row = wv.ownBlock) (hg : w.grownBy w' row) :
    w'.cell? ⟨d, 513, none⟩ = some wv ∧ w'.frozen? ⟨d, 513, none⟩ = false ∧
    ∀ v' l, w'.ownsRow 0 100 2 v' l.length (putsV l) → (∀ p ∈ l, p.1 < 512) → DiskAt (w'.setCell ⟨d, 513, none⟩ v') d m v' { D with wait := l } := by
  obtain ⟨cs, hb, hc⟩ := h.cells
  have hb' : Blk w' d 97 cs := hb.grown hg (by rw [hr]; exact fun e => h.ne_own e.symm)
  obtain ⟨es, c, hm⟩ := h.map.blk
  have hm' : w'.heap[m]? = w.heap[m]? := hg.block m h.lt_m (by rw [hr]; exact fun e => h.m_own e.symm)
  refine ⟨by rw [hb'.cell]; exact hc.wait, hb'.frozen _, fun v' l ho hl => ?_⟩
  have hne := hb'.ne_own ho (by decide)
  exact ⟨⟨_, hb'.set_ 513 v', hc.set_wait v' l⟩, ((h.map.stay hm').stay (Below.heap_setCell _ _ _ _ h.ne_m.symm)).of rfl rfl,
    own_stay ho (fun g hg' => Below.heap_setCell _ _ _ _ (by rintro rfl; exact hne hg')), h.fine.1, h.fine.2.1, hl⟩
theorem atKey_struck {T : DataW Unit} {f : Nat → Bool} (hT : ∀ k : Nat, k < 512 → T.atKey (.int .i64 (k : Int)) (.lit (.bool false)) = .lit (.bool (f k))) (n : Nat) :
    ∀ k : Nat, k < 512 → (T.del (.int .i64 (n : Int))).atKey (.int .i64 (k : Int)) (.lit (.bool false)) = .lit (.bool (if k = n then false else f k)) := by
  intro k hk
  by_cases e : k = n
  · subst e; rw [if_pos rfl]; exact atKey_del_same _
  · rw [if_neg e, atKey_del_other]
    · exact hT k hk
    · intro e'; injection e' with _ e'; exact e (by omega)
theorem atKey_laid {T : DataW Unit} (hI : IsMap T) {f : Nat → Bool} (hT : ∀ k : Nat, k < 512 → T.atKey (.int .i64 (k : Int)) (.lit (.bool false)) = .lit (.bool (f k))) (n : Nat) :
    ∀ k : Nat, k < 512 → (T.put (.int .i64 (n : Int)) (.lit (.bool true))).atKey (.int .i64 (k : Int)) (.lit (.bool false)) = .lit (.bool (if k = n then true else f k)) := by
  intro k hk
  by_cases e : k = n
  · subst e; rw [if_pos rfl]; exact atKey_put_same hI (by trivial) _ _
  · rw [if_neg e, atKey_put_other]
    · exact hT k hk
    · intro e'; injection e' with _ e'; exact e (by omega)

/-- is a block torn? -/
theorem DiskAt.look (h : DiskAt w d m wv D) (n : Nat) (hn : n < 512) : (Instr.lookup 93 (.map (some m)) (.int .i64 (n : Int)) false).run Try.prog w = .ok (.bool (D.torn n)) w := by
  obtain ⟨T, ho, hT⟩ := h.map
  obtain ⟨v, ps, hrun, hv⟩ := ho.lookup law3 Try.underlying93 (zero4 w) (zd := .lit (.bool false)) (zp := []) (plainElem_bool Try.underlying4 false) (key3 n hn)
  rw [hT n hn] at hv
  obtain ⟨b, rfl, hb⟩ := plainElem_bool_inv Try.underlying4 hv
  have hb' : b = D.torn n := by simpa using (congrArg Prod.fst hb).symm
  subst hb'
  exact hrun

theorem DiskAt.more_turns (h : DiskAt w d m wv D) : DiskAt w d m wv { D with turns := D.turns + 1 } := by
  obtain ⟨cs, hb, hc⟩ := h.cells
  obtain ⟨T, ho, hT⟩ := h.map
  exact ⟨⟨cs, hb, hc.size, hc.last, hc.torn, hc.wait, hc.arm, hc.off⟩, ⟨T, ho.mono (Nat.le_succ _), hT⟩, h.own, h.fine⟩

theorem IsDisk.lt (h : IsDisk w d F D) : ∀ k, F k → k < w.heap.size := by
  obtain ⟨m, wv, hd, hF⟩ := h
  exact fun k hk => hd.lt k ((hF k).1 hk)
theorem IsDisk.stay (h : IsDisk w d F D) (hk : ∀ k, F k → w'.heap[k]? = w.heap[k]?) : IsDisk w' d F D := by
  obtain ⟨m, wv, hd, hF⟩ := h
  exact ⟨m, wv, hd.stay (fun k h => hk k ((hF k).2 h)), hF⟩
/-- another thing moved -/
theorem IsDisk.beside {G G' : Foot} (h : IsDisk w d F D) (hm : Moves w w' G G') (hd : ∀ k, G k → ¬ F k) : IsDisk w' d F D := h.stay (hm.stay hd h.lt)
theorem IsDisk.below (h : IsDisk w d F D) (hb : Below w.heap.size w w') : IsDisk w' d F D := h.stay fun k hk => hb.block k (h.lt k hk)
end

end Go.Proofs.Ytddaiihhhajieaa
