/- The walk of a list's text: a Builder, a map of the names seen. -/
import Derived.Test.YtappdmioncdefaaDoorPure1
import Derived.Test.YtappdmioncdefaaDoorBuilder
import Derived.StringKeys
import Derived.Maps.OwnOps
import Derived.Maps.OwnSet
import Derived.Maps.StringElems
namespace Go.Proofs.YtappdmioncdefaaDoor.Q
open Go.RowKit Go.Maps Go.Proofs.YtappdmioncdefaaDoorW.PrintWords Go.Proofs.YtappdmioncdefaaDoorW.PrintLast Go.Proofs.YtappdmioncdefaaDoorW.PrintMore

def paramsL (l : List S46) : List UInt8 := l.flatMap fun t => 32 :: typeT t
def lineL (x : S34) : List UInt8 := x.f0.data.toList ++ paramsL x.f1 ++ [32, 58, 32] ++ typeT ⟨x.f2, 0⟩ ++ [10]
def textL (l : List S34) : List UInt8 := l.flatMap lineL
/-- is it among them? -/
def memB (x : ByteArray) (l : List ByteArray) : Bool := l.any fun y => decide (y = x)
theorem memB_iff {x : ByteArray} {l : List ByteArray} : memB x l = true ↔ x ∈ l := by
  unfold memB
  rw [List.any_eq_true]
  exact ⟨fun ⟨y, hy, h⟩ => (of_decide_eq_true h) ▸ hy, fun h => ⟨x, h, by simp⟩⟩
/-- does a name stand twice? (the last one stands first) -/
def twR : List ByteArray → Bool
  | [] => false
  | x :: r => twR r || memB x r
def namesR (l : List S34) : List ByteArray := (l.map fun x => x.f0).reverse
def TextOk (l : List S34) : Prop := l.length ≤ 60000 ∧ ∀ x ∈ l, x.f0.size ≤ 1000000000
instance (l : List S34) : Decidable (TextOk l) := by unfold TextOk; infer_instance
def textP (l : List S34) : ByteArray × Int := if l.all rightB = true then (if twR (namesR l) = true then (ByteArray.empty, 9) else (bytesOfL (textL l), 0)) else (ByteArray.empty, 6)
def face_Text.f (l : List S34) : Option (ByteArray × Int) := if TextOk l then some (textP l) else none

/-! ### sizes -/
theorem typeT_len (t : S46) (h0 : -9223372036854775808 ≤ t.f1) (h1 : t.f1 ≤ 9223372036854775807) : (typeT t).length ≤ 24 := by
  have hz := Lib.itoa_length_le t.f1 h0 h1
  unfold typeT
  rw [List.length_append]
  have e1 : (if t.f0 = true then secB else pubB).length = 3 := by split <;> rfl
  have e2 : (if t.f1 > 0 then Lib.itoa t.f1 else []).length ≤ 21 := by
    split
    · exact hz
    · exact Nat.zero_le _
  omega
theorem paramsL_snoc (l : List S46) (i : Nat) (h : i < l.length) : paramsL (l.take (i + 1)) = paramsL (l.take i) ++ (32 :: typeT l[i]) := by
  unfold paramsL
  rw [List.take_succ_eq_append_getElem h, List.flatMap_append]
  simp
theorem typesB_at {l : List S46} (h : typesB l = true) (i : Nat) (hi : i < l.length) : 0 ≤ l[i].f1 ∧ l[i].f1 ≤ 16 := by
  unfold typesB at h
  rw [List.all_eq_true] at h
  simpa using h _ (List.getElem_mem hi)
theorem paramsL_len {l : List S46} (h : typesB l = true) (i : Nat) (hi : i ≤ l.length) : (paramsL (l.take i)).length ≤ i * 25 := by
  induction i with
  | zero => simp [paramsL]
  | succ i ih =>
    have h1 := ih (by omega)
    have h2 := typesB_at h i (by omega)
    have h3 := typeT_len l[i] (by omega) (by omega)
    rw [paramsL_snoc l i (by omega)]
    simp
    omega
theorem textL_snoc (l : List S34) (i : Nat) (h : i < l.length) : textL (l.take (i + 1)) = textL (l.take i) ++ lineL l[i] := by
  unfold textL
  rw [List.take_succ_eq_append_getElem h, List.flatMap_append]
  simp
theorem namesR_snoc (l : List S34) (i : Nat) (h : i < l.length) : namesR (l.take (i + 1)) = l[i].f0 :: namesR (l.take i) := by
  unfold namesR
  rw [List.take_succ_eq_append_getElem h, List.map_append, List.reverse_append]
  rfl

/-! ### the map of names seen -/
theorem law9 : Keyed Tryd.prog 9 := string_keyed Tryd.underlying9
theorem zero4 (w : World) : (zeroValue 4).run Tryd.prog w = .ok (.bool false) w := by kernel_rfl
def Seen (w : World) (m n : Nat) (names : List ByteArray) : Prop :=
  ∃ D : DataW Unit, w.ownsMap Tryd.prog 9 (plainElem Tryd.prog 4) m n D ∧ IsMap D ∧ ∀ k : ByteArray, D.atKey (.string k.data.toList) (.lit (.bool false)) = .lit (.bool (memB k names))
theorem seen_new (w : World) : Seen (w.alloc (.map #[] 0)) w.heap.size 0 [] :=
  ⟨.map [], World.ownsMap_made _ _ _ _, ⟨[], rfl⟩, fun k => by simp [DataW.atKey, memB]⟩
theorem key9 {s : ByteArray} (h : s.size ≤ 1000000000) : keyOf Tryd.prog 9 (.string s) = some (.string s.data.toList) := Go.WideMaps.keyOf_string_mk Tryd.underlying9 (by unfold maxLen; omega)
theorem plainElem_bool_inv {H : Type} {P : Program} {e : TypeId} (he : P.underlying e = some .bool) {v : Value} {z : DataW H × List MemPlace} (h : plainElem P e v = some z) : ∃ b, v = .bool b ∧ z = (.lit (.bool b), []) := by
  unfold plainElem at h
  rw [he] at h
  cases v <;> simp at h
  exact ⟨_, rfl, h.symm⟩
theorem Seen.look {w : World} {m n : Nat} {names : List ByteArray} (h : Seen w m n names) (s : ByteArray) (hs : s.size ≤ 1000000000) :
    (Instr.lookup 51 (.map (some m)) (.string s) false).run Tryd.prog w = .ok (.bool (memB s names)) w := by
  obtain ⟨D, ho, _, hT⟩ := h
  obtain ⟨v, ps, hrun, hv⟩ := ho.lookup law9 Tryd.underlying51 (zero4 w) (zd := .lit (.bool false)) (zp := []) (plainElem_bool Tryd.underlying4 false) (key9 hs)
  rw [hT s] at hv
  obtain ⟨b, rfl, hb⟩ := plainElem_bool_inv Tryd.underlying4 hv
  have hb' : b = memB s names := by simpa using (congrArg Prod.fst hb).symm
  subst hb'
  exact hrun
theorem seen_put {w' : World} {m n : Nat} {names : List ByteArray} {D : DataW Unit} (hI : IsMap D) (hT : ∀ k : ByteArray, D.atKey (.string k.data.toList) (.lit (.bool false)) = .lit (.bool (memB k names))) (s : ByteArray)
    (ho : w'.ownsMap Tryd.prog 9 (plainElem Tryd.prog 4) m n (D.put (.string s.data.toList) (.lit (.bool true)))) : Seen w' m n (s :: names) := by
  refine ⟨_, ho, hI.put _ _, fun k => ?_⟩
  by_cases e : k = s
  · subst e
    rw [atKey_put_same hI (by trivial)]
    have : memB k (k :: names) = true := memB_iff.2 (List.mem_cons_self ..)
    rw [this]
  · rw [atKey_put_other (fun e' => by injection e' with e'; exact e (bytes_ext e')), hT]
    have : memB k (s :: names) = memB k names := by
      unfold memB
      rw [List.any_cons, decide_eq_false (fun e' => e e'.symm), Bool.false_or]
    rw [this]
theorem Seen.kept {w w' : World} {m n : Nat} {names : List ByteArray} (h : Seen w m n names) (hm : ∀ o, w.heap[m]? = some o → (∀ c fz, o ≠ .cells c 5 fz) → w'.heap[m]? = some o) : Seen w' m n names := by
  obtain ⟨D, ⟨es, c, hb, hr⟩, hI, hT⟩ := h
  exact ⟨D, ⟨es, c, hm _ hb (fun _ _ e => by cases e), hr⟩, hI, hT⟩
theorem Seen.blk {w : World} {m n : Nat} {names : List ByteArray} (h : Seen w m n names) : ∃ es c, w.heap[m]? = some (.map es c) := by
  obtain ⟨D, ⟨es, c, hb, hr⟩, _⟩ := h
  exact ⟨es, c, hb⟩

/-! ### what stands in memory as the text grows -/
structure Tx (w wr : World) (b m n : Nat) (names : List ByteArray) (T : List UInt8) : Prop where
  bel : Below w.heap.size w wr
  bld : Lib.IsBuilder 50 5 w.heap.size b (Lib.byteCells T) wr
  seen : Seen wr m n names
  low : w.heap.size ≤ m
theorem builder_below {T e : TypeId} {B b : Nat} {bs : List Value} {w w' : World} (h : Lib.IsBuilder T e B b bs w) (hb : ∀ k, k < w.heap.size → w'.heap[k]? = w.heap[k]?) : Lib.IsBuilder T e B b bs w' := by
  have key : ∀ p, Lib.BuilderAt T e B b p bs w → Lib.BuilderAt T e B b p bs w' := by
    rintro p ⟨hB, v, hbk, hown, hne⟩
    exact ⟨hB, v, (hb b (Array.getElem?_eq_some_iff.1 hbk).1).trans hbk, own_move hown (fun g hg => hb g ((hown.lt g hg).2)), hne⟩
  exact h.imp (key _) (key _)
section
variable {w wr wr' : World} {b m n : Nat} {names : List ByteArray} {T : List UInt8}
theorem Tx.below (h : Tx w wr b m n names T) (hb : Below wr.heap.size wr wr') : Tx w wr' b m n names T := by
  obtain ⟨es, c, hm⟩ := h.seen.blk
  exact ⟨h.bel.trans (hb.mono h.bel.size), builder_below h.bld (fun k hk => hb.block k hk), h.seen.kept (fun o ho _ => (hb.block m (Array.getElem?_eq_some_iff.1 ho).1).trans ho), h.low⟩
theorem Tx.written (h : Tx w wr b m n names T) (s : ByteArray) (h1 : Lib.BuilderAt 50 5 w.heap.size b (.pointer (some ⟨b, 0, none⟩)) (Lib.byteCells T ++ Lib.strCells s) wr') (h2 : Below w.heap.size wr wr') (h3 : Lib.OthersKept 5 (some b) wr wr') :
    Tx w wr' b m n names (T ++ s.data.toList) := by
  obtain ⟨es, c, hm⟩ := h.seen.blk
  have hbm : b ≠ m := by
    rintro rfl
    obtain ⟨v, hb⟩ : ∃ v, wr.heap[b]? = some (.cells v 50 (0, 0)) := by
      rcases h.bld with ⟨_, v, hb, _⟩ | ⟨_, v, hb, _⟩ <;> exact ⟨_, hb⟩
    rw [hb] at hm; cases hm
  refine ⟨h.bel.trans h2, .inr ?_, h.seen.kept (fun o ho hx => h3 m o ho (fun e => hbm (by injection e with e; exact e.symm)) hx), h.low⟩
  have : Lib.byteCells (T ++ s.data.toList) = Lib.byteCells T ++ Lib.strCells s := by unfold Lib.byteCells Lib.strCells; rw [List.map_append]
  rw [this]
  exact h1
theorem Tx.put {s : ByteArray} (h : Tx w wr b m n names T) {D : DataW Unit} (hI : IsMap D) (hT : ∀ k : ByteArray, D.atKey (.string k.data.toList) (.lit (.bool false)) = .lit (.bool (memB k names)))
    (ho : wr'.ownsMap Tryd.prog 9 (plainElem Tryd.prog 4) m (n + 1) (D.put (.string s.data.toList) (.lit (.bool true)))) (hg : wr.grownBy wr' (some m)) : Tx w wr' b m (n + 1) (s :: names) T := by
  obtain ⟨es, c, hm⟩ := h.seen.blk
  have hlow : ∀ j, some m = some j → w.heap.size ≤ j := fun j e => by cases e; exact h.low
  refine ⟨h.bel.grown hg h.bel.size hlow, ?_, seen_put hI hT s ho, h.low⟩
  have key : ∀ p, Lib.BuilderAt 50 5 w.heap.size b p (Lib.byteCells T) wr → Lib.BuilderAt 50 5 w.heap.size b p (Lib.byteCells T) wr' := by
    rintro p ⟨hB, v, hbk, hown, hne⟩
    refine ⟨hB, v, (hg.block b (Array.getElem?_eq_some_iff.1 hbk).1 (fun e => by injection e with e; subst e; rw [hbk] at hm; cases hm)).trans hbk, own_move hown (fun g hgo => hg.block g ((hown.lt g hgo).2) (fun e => ?_)), hne⟩
    injection e with e
    subst e
    obtain ⟨cells, hc⟩ := own_typed hown g hgo
    rw [hc] at hm; cases hm
  exact h.bld.imp (key _) (key _)
/-- a block of a struct's fields, beside -/
theorem kept_written {g t : Nat} {cs : Array Value} (hne : g ≠ b) (ht : t ≠ 5) (h3 : Lib.OthersKept 5 (some b) wr wr') (hb : wr.heap[g]? = some (.cells cs t (0, 0))) : wr'.heap[g]? = some (.cells cs t (0, 0)) :=
  h3 g _ hb (fun e => hne (by injection e)) (fun c fz e => ht (by injection e))
end

/-! ### the walk -/
theorem rightB_parts {x : S34} (h : rightB x = true) : x.f1.length ≤ 6 ∧ typesB x.f1 = true := by
  unfold rightB at h
  simp only [Bool.and_eq_true, decide_eq_true_eq] at h
  exact ⟨h.1.2, h.2⟩
theorem take_next {l : List S34} {i : Nat} {x : S34} (h : l[i]? = some x) : textL (l.take (i + 1)) = textL (l.take i) ++ lineL x ∧ namesR (l.take (i + 1)) = x.f0 :: namesR (l.take i) ∧ (l.take (i + 1)).all rightB = ((l.take i).all rightB && rightB x) := by
  obtain ⟨hi, rfl⟩ := List.getElem?_eq_some_iff.1 h
  refine ⟨textL_snoc l i hi, namesR_snoc l i hi, ?_⟩
  rw [List.take_succ_eq_append_getElem hi, List.all_append]
  simp
theorem strCells_L (l : List UInt8) : (bytesOfL l).data.toList = l := bytesOfL_data l

set_option maxHeartbeats 4000000 in
set_option maxRecDepth 200000 in
theorem face_Text.calls (A0 : Option Addr) (c0 : Nat) (l0 : List (S34)) (r1 : ByteArray) (r2 : Int) (w : World) (hr0 : Kd.C k34 w A0 l0.length l0) (_hc0 : l0.length ≤ c0) (hG : GoodW w) (h : face_Text.f l0 = some (r1, r2)) :
    Calls Tryd.prog 12 #[.slice A0 l0.length c0] w fun e w' => e = .returned (.tuple #[.string r1, .int .i64 r2]) ∧ Below w.heap.size w w' := by
  unfold face_Text.f at h
  split at h
  case isFalse => cases h
  case isTrue hok =>
  have HP := Aside0.mk (Option.some.inj h)
  clear h
  have HOK := Aside0.mk hok.2
  have hlen := hok.1
  clear hok
  have HG := Aside0.mk hG
  have HR0 := Aside0.mk hr0
  clear hr0 hG
  obtain ⟨N, hN⟩ : ∃ N, N = l0.length := ⟨_, rfl⟩
  rw [← hN] at hlen HR0 _hc0 ⊢
  have HN := Aside0.mk hN
  clear hN
  have H22 := Aside0.mk (fun (x : S34) (A : Option Addr) (c : Nat) (W : World) (hs : x.f0.size ≤ 1000000000) (h1 : Kd.C k46 W A x.f1.length x.f1) (h2 : x.f1.length ≤ c) (h3 : GoodW W) =>
    face_right.calls (x.f0.size + 11) x.f0 A c x.f1 x.f2 _ W h1 h2 h3 (face_right_f x.f0 x.f1 x.f2 (by omega) _ (by omega)))
  have H24 := Aside0.mk (fun (t : S46) (W : World) (h0 : 0 ≤ t.f1 ∧ t.f1 ≤ 16) (h3 : GoodW W) => face_typeText.calls t.f0 t.f1 _ W h3 (face_typeText_f t.f0 t.f1 (by omega) (by omega)))
  have H23 := Aside0.mk (fun (W : World) (n : Nat) (names : List ByteArray) (T : List UInt8) (s : ByteArray) (ht : Tx w W w.heap.size (w.heap.size + 1) n names T) (hs : T.length + s.size ≤ 140737488355328) =>
    writeString_any w.heap.size w.heap.size (Lib.byteCells T) s W ht.bld (by rw [Lib.byteCells_length]; exact hs) ht.bel.size)
  have hmm := @run_makeMap Tryd.prog
  go_enter Tryd.func12, Tryd.ntmps12
  go_wp2_with fail
  have hT0 : Tx w ((w.alloc (.cells #[.pointer none, .slice none 0 0] 50)).alloc (.map #[] 0)) w.heap.size (w.heap.size + 1) 0 (namesR (l0.take 0)) (textL (l0.take 0)) := by
    have hb0 : Below w.heap.size w (w.alloc (.cells #[.pointer none, .slice none 0 0] 50)) := (Below.refl _ _).alloc (Nat.le_refl _) _
    refine ⟨hb0.alloc hb0.size _, builder_below (Lib.fresh_isBuilder 50 5 w) (fun k hk => Below.heap_alloc _ _ k hk), ?_, by omega⟩
    have := seen_new (w.alloc (.cells #[.pointer none, .slice none 0 0] 50))
    simpa [namesR] using this
  go_loopw [6, 14] (fun tv iv wr => ∃ (z : Int) (i : Nat), i ≤ N ∧ Aside0 (z = i) ∧ Aside0 (Tx w wr w.heap.size (w.heap.size + 1) i (namesR (l0.take i)) (textL (l0.take i))) ∧ Aside0 ((textL (l0.take i)).length ≤ i * 2000000000) ∧ Aside0 ((l0.take i).all rightB = true) ∧ tv = .bool (twR (namesR (l0.take i))) ∧ iv = .int .i64 z) (fun _ iv _ => N - (intOf iv).toNat)
  case atStart => exact ⟨0, 0, Nat.zero_le _, ⟨rfl⟩, ⟨hT0⟩, ⟨Nat.zero_le _⟩, ⟨rfl⟩, rfl, rfl⟩
  case round =>
    obtain ⟨z, i, hi, HZ, HT, HTL, HRT, rfl, rfl⟩ := hrel
    clear hT0
    obtain ⟨W0, rfl⟩ : ∃ W, W = wr := ⟨_, rfl⟩
    by_cases hlt : i < N
    · have c1 : decide (z < (N : Int)) = true := by have := HZ.out; rw [decide_eq_true_eq]; omega
      have p1 : 0 ≤ z := by have := HZ.out; omega
      have q1 : z < (N : Int) := of_decide_eq_true c1
      obtain ⟨x, hx⟩ : ∃ x, l0[i]? = some x := ⟨_, List.getElem?_eq_getElem (by have := HN.out; omega)⟩
      have hrd : rd_T34 l0 z = x := by unfold rd_T34; rw [show z.toNat = i by have := HZ.out; omega, List.getD_eq_getElem?_getD, hx]; rfl
      obtain ⟨ad, A1, c2, e1, x0, x1, x2, hl1, hr1⟩ := at_T34 HR0.out z p1 q1
      rw [hrd] at x0 x1 x2 hl1 hr1
      cases e1
      have HB := Aside0.mk HT.out.bel
      replace x0 := (HB.out.cell (World.block_lt_of_cell? w _ x0)).trans x0
      replace x1 := (HB.out.cell (World.block_lt_of_cell? w _ x1)).trans x1
      replace x2 := (HB.out.cell (World.block_lt_of_cell? w _ x2)).trans x2
      have HR1 := Aside0.mk hr1
      have HL1 := Aside0.mk hl1
      have hxs := HOK.out x (List.mem_of_getElem? hx)
      have HX := Aside0.mk hx
      have HRD := Aside0.mk hrd
      clear hr1 hl1 hx hrd
      replace p1 := eq_true p1
      replace q1 := eq_true q1
      obtain ⟨b1, hb1⟩ : ∃ b, b = rightB x := ⟨_, rfl⟩
      have HB1 := Aside0.mk hb1
      have H22' := Aside0.mk (fun W h1 h2 h3 => H22.out x A1 c2 W hxs h1 h2 h3)
      rw [show rightB ⟨x.f0, x.f1, x.f2⟩ = b1 from hb1.symm] at H22'
      obtain ⟨f0, f1, f2⟩ := x
      clear hb1
      obtain ⟨tv, htv⟩ : ∃ t, t = twR (namesR (l0.take i)) := ⟨_, rfl⟩
      rw [← htv]
      have HTV := Aside0.mk htv
      obtain ⟨NM, hnm⟩ : ∃ t, t = namesR (l0.take i) := ⟨_, rfl⟩
      obtain ⟨TX, htx⟩ : ∃ t, t = textL (l0.take i) := ⟨_, rfl⟩
      rw [← hnm, ← htx] at HT
      rw [← htx] at HTL
      have HNM := Aside0.mk hnm
      have HTX := Aside0.mk htx
      clear htv hnm htx
      replace hxs : f0.size ≤ 1000000000 := hxs
      have HBA := Aside0.mk (HB.out.alloc HB.out.size (.cells #[.string f0, .slice A1 f1.length c2, .bool f2] 34))
      have H3 := Aside0.mk (fun w3 (hb3 : Below (W0.alloc (.cells #[.string f0, .slice A1 f1.length c2, .bool f2] 34)).heap.size (W0.alloc (.cells #[.string f0, .slice A1 f1.length c2, .bool f2] 34)) w3) =>
        (⟨(hb3.block _ (by simp)).trans (heap_alloc_new W0 _), HT.out.below (((Below.refl W0.heap.size W0).alloc (Nat.le_refl _) _).trans (hb3.mono (by simp)))⟩ :
          w3.heap[W0.heap.size]? = some (.cells #[.string f0, .slice A1 f1.length c2, .bool f2] 34 (0, 0)) ∧ Tx w w3 w.heap.size (w.heap.size + 1) i NM TX))
      cases b1 with
      | false =>
        have hp : textP l0 = (ByteArray.empty, 6) := by
          unfold textP
          rw [if_neg]
          rw [List.all_eq_true]
          intro h
          have := h _ (List.mem_of_getElem? HX.out)
          rw [← HB1.out] at this
          cases this
        have hpp := HP.out
        rw [hp] at hpp
        obtain ⟨rfl, rfl⟩ : ByteArray.empty = r1 ∧ (6 : Int) = r2 := by simpa using hpp
        clear hp hpp
        go_wp2_with (go_at_call 22; refine (H22'.out _ (Kd.C_below HR1.out HBA.out) HL1.out (HG.out.below HBA.out)).mono ?_; rintro e3 w3 ⟨rfl, hb3⟩; have HK := Aside0.mk (H3.out _ hb3).2.bel; clear hb3 x0 x1 x2)
        go_ret2
        exact ⟨rfl, HK.out⟩
      | true =>
        obtain ⟨mb, hmb⟩ : ∃ b, b = memB f0 NM := ⟨_, rfl⟩
        have HMB := Aside0.mk hmb
        clear hmb
        have HF6 : Aside0 (f1.length ≤ 6) := ⟨(rightB_parts HB1.out.symm).1⟩
        have HLK := Aside0.mk (fun w3 n T (h : Tx w w3 w.heap.size (w.heap.size + 1) n NM T) => HMB.out ▸ h.seen.look f0 hxs)
        have HLEN : Aside0 (TX.length + f0.size ≤ 140737488355328) := ⟨by have := HTL.out; omega⟩
        have C0 := Aside0.mk (fun (W : World) (h : W.heap[W0.heap.size]? = some (.cells #[.string f0, .slice A1 f1.length c2, .bool f2] 34 (0, 0))) => (show W.cell? ⟨W0.heap.size, 0, none⟩ = some (.string f0) by rw [Lib.cell_of_heap h]; rfl))
        have C1 := Aside0.mk (fun (W : World) (h : W.heap[W0.heap.size]? = some (.cells #[.string f0, .slice A1 f1.length c2, .bool f2] 34 (0, 0))) => (show W.cell? ⟨W0.heap.size, 1, none⟩ = some (.slice A1 f1.length c2) by rw [Lib.cell_of_heap h]; rfl))
        have HNE : Aside0 (W0.heap.size ≠ w.heap.size + 1 ∧ W0.heap.size ≠ w.heap.size) := by
          obtain ⟨es, c, hm⟩ := HT.out.seen.blk
          have h1 := (Array.getElem?_eq_some_iff.1 hm).1
          exact ⟨⟨by omega, by omega⟩⟩
        cases tv
        all_goals
          go_wp2_with (first
            | (go_at_call 23; refine (H23.out w4 _ _ _ f0 T4.out HLEN.out).mono ?_; rintro e5 w5 ⟨rfl, hq1, hq2, hq3⟩; have T5 := Aside0.mk (T4.out.written f0 hq1 hq2 hq3); have HG5 := Aside0.mk (kept_written HNE.out.2 (by decide) hq3 HG4.out); have e1 := C1.out _ HG5.out; clear hq1 hq2 hq3 d0 hlk)
            | (at_mapUpdate; refine wpList_mapUpdate_own _ rfl _ _ _ 51 rfl 9 4 law9 Tryd.underlying51 (plainElem (H := Unit) Tryd.prog 4) (w.heap.size + 1) i D rfl HS.out.1 (by unfold maxLen; omega) _ _ _ rfl rfl (key9 hxs) _ [] (plainElem_bool Tryd.underlying4 true) ?_; intro w4 ho4 hg4; have T4 := Aside0.mk (T3.out.put HS.out.2.1 HS.out.2.2 ho4 hg4); have HG4 := Aside0.mk ((hg4.block _ (Array.getElem?_eq_some_iff.1 HG3.out).1 (fun e => HNE.out.1 (by injection e))).trans HG3.out); have d0 := C0.out _ HG4.out; clear ho4 hg4 e0)
            | (go_at_call 22; refine (H22'.out _ (Kd.C_below HR1.out HBA.out) HL1.out (HG.out.below HBA.out)).mono ?_; rintro e3 w3 ⟨rfl, hb3⟩; have HG3 := Aside0.mk (H3.out _ hb3).1; have T3 := Aside0.mk (H3.out _ hb3).2; have hlk := HLK.out _ _ _ T3.out; have e0 := C0.out _ HG3.out; obtain ⟨D, hS1, hS2, hS3⟩ := T3.out.seen; have HS := Aside0.mk (And.intro hS1 (And.intro hS2 hS3)); clear hb3 x0 x1 x2 hS1 hS2 hS3))
          go_loopw [37] (fun jv wr' => ∃ (y : Int) (j : Nat), j ≤ f1.length ∧ Aside0 (y = j) ∧ Aside0 (Tx w wr' w.heap.size (w.heap.size + 1) (i + 1) (f0 :: NM) (TX ++ f0.data.toList ++ paramsL (f1.take j))) ∧ Aside0 (wr'.heap[W0.heap.size]? = some (.cells #[.string f0, .slice A1 f1.length c2, .bool f2] 34 (0, 0))) ∧ jv = .int .i64 y) (fun jv _ => f1.length - (intOf jv).toNat)
          case atStart => exact ⟨0, 0, Nat.zero_le _, ⟨rfl⟩, ⟨by simpa [paramsL] using T5.out⟩, HG5, rfl⟩
          case round =>
            obtain ⟨y, j, hj, HY, HTJ, HGJ, rfl⟩ := hrel
            clear HG5 T5 HG4 T4 HG3 T3 e1 HS
            by_cases hjt : j < f1.length
            · have g1 : decide (y < (f1.length : Int)) = true := by have := HY.out; rw [decide_eq_true_eq]; omega
              have p2 : 0 ≤ y := by have := HY.out; omega
              have q2 : y < (f1.length : Int) := of_decide_eq_true g1
              obtain ⟨t, ht⟩ : ∃ t, f1[j]? = some t := ⟨_, List.getElem?_eq_getElem hjt⟩
              have hrd2 : rd_T46 f1 y = t := by unfold rd_T46; rw [show y.toNat = j by have := HY.out; omega, List.getD_eq_getElem?_getD, ht]; rfl
              obtain ⟨ad2, e2, y0, y1⟩ := at_T46 HR1.out y p2 q2
              rw [hrd2] at y0 y1
              cases e2
              have HBJ := Aside0.mk HTJ.out.bel
              replace y0 := (HBJ.out.cell (World.block_lt_of_cell? w _ y0)).trans y0
              replace y1 := (HBJ.out.cell (World.block_lt_of_cell? w _ y1)).trans y1
              have htb : 0 ≤ t.f1 ∧ t.f1 ≤ 16 := by
                have h1 := (rightB_parts HB1.out.symm).2
                have h2 := typesB_at h1 j hjt
                rw [List.getElem?_eq_getElem hjt] at ht
                cases ht
                exact h2
              have HTT := Aside0.mk ht
              obtain ⟨tt, htt⟩ : ∃ tt, tt = bytesOfL (typeT ⟨t.f0, t.f1⟩) := ⟨_, rfl⟩
              have htl : tt.size ≤ 24 := by rw [htt, bytesOfL_size]; exact typeT_len _ (by show _ ≤ t.f1; omega) (by show t.f1 ≤ _; omega)
              have H24' := Aside0.mk (fun W h3 => H24.out t W htb h3)
              rw [← htt] at H24'
              have HTD : Aside0 (tt.data.toList = typeT t) := ⟨by rw [htt, bytesOfL_data]⟩
              obtain ⟨t0, t1⟩ := t
              have HBA2 := Aside0.mk (HBJ.out.alloc HBJ.out.size (.cells #[.bool t0, .int .i64 t1] 46))
              have HJ3 := Aside0.mk (fun w3 (hb3 : Below (wr.alloc (.cells #[.bool t0, .int .i64 t1] 46)).heap.size (wr.alloc (.cells #[.bool t0, .int .i64 t1] 46)) w3) =>
                (⟨(hb3.block _ (by have := (Array.getElem?_eq_some_iff.1 HGJ.out).1; simp; omega)).trans ((Below.heap_alloc wr _ _ (Array.getElem?_eq_some_iff.1 HGJ.out).1).trans HGJ.out), HTJ.out.below (((Below.refl wr.heap.size wr).alloc (Nat.le_refl _) _).trans (hb3.mono (by simp)))⟩ :
                  w3.heap[W0.heap.size]? = some (.cells #[.string f0, .slice (some ad2) f1.length c2, .bool f2] 34 (0, 0)) ∧ Tx w w3 w.heap.size (w.heap.size + 1) (i + 1) (f0 :: NM) (TX ++ f0.data.toList ++ paramsL (f1.take j))))
              have HPL : Aside0 ((TX ++ f0.data.toList ++ paramsL (f1.take j)).length + (1 + tt.size) ≤ 140737488355328) := ⟨by
                have h1 := rightB_parts HB1.out.symm
                have h2 := paramsL_len h1.2 j hj
                have h3 := HLEN.out
                have h5 := h1.1
                have h6 := HTL.out
                simp only [List.length_append]
                have : f0.data.toList.length = f0.size := by simp
                simp only at h2 h5
                omega⟩
              have c7 : 1 + tt.size ≤ 9223372036854775807 := by omega
              have c7b0 := eq_true c7
              have c7b1 : decide (1 + tt.size ≤ 9223372036854775807) = true := decide_eq_true c7
              have c7b2 : (9223372036854775807 < 1 + tt.size) = False := eq_false (Nat.not_lt.2 c7)
              clear hrd2 ht htt htb htl c7
              replace p2 := eq_true p2
              replace q2 := eq_true q2
              go_wp2_with (first
                | (go_at_call 23; refine (H23.out w7 _ _ _ _ T7.out (by rw [ByteArray.size_append]; exact HPL.out)).mono ?_; rintro e8 w8 ⟨rfl, hq1, hq2, hq3⟩; have T8 := Aside0.mk (T7.out.written _ hq1 hq2 hq3); have HG8 := Aside0.mk (kept_written HNE.out.2 (by decide) hq3 HG7.out); clear hq1 hq2 hq3)
                | (go_at_call 24; refine (H24'.out _ (HG.out.below HBA2.out)).mono ?_; rintro e7 w7 ⟨rfl, hb7⟩; have HG7 := Aside0.mk (HJ3.out _ hb7).1; have T7 := Aside0.mk (HJ3.out _ hb7).2; clear hb7 y0 y1))
              go_roundw
              case rel => 
                refine ⟨wrap64 (y + 1), j + 1, hjt, ⟨by have := HY.out; have := HF6.out; unfold wrap64; omega⟩, ⟨?_⟩, HG8, rfl⟩
                have h := T8.out
                obtain ⟨hj', ht'⟩ := List.getElem?_eq_some_iff.1 HTT.out
                rw [paramsL_snoc f1 j hj', ht']
                have e : (⟨#[32]⟩ ++ tt : ByteArray).data.toList = 32 :: typeT ⟨t0, t1⟩ := by rw [ByteArray.data_append, Array.toList_append, HTD.out]; rfl
                rw [e] at h
                simpa [List.append_assoc] using h
              case measure => have := HY.out; have := HF6.out; simp [intOf]; unfold wrap64; omega
            · have g1 : decide (y < (f1.length : Int)) = false := by have := HY.out; rw [decide_eq_false_iff_not]; omega
              have hje : f1.take j = f1 := List.take_of_length_le (by omega)
              rw [hje] at HTJ
              have d2 : wr.cell? ⟨W0.heap.size, 2, none⟩ = some (.bool f2) := by rw [Lib.cell_of_heap HGJ.out]; rfl
              obtain ⟨tt, htt⟩ : ∃ tt, tt = bytesOfL (typeT ⟨f2, 0⟩) := ⟨_, rfl⟩
              have htl : tt.size ≤ 24 := by rw [htt, bytesOfL_size]; exact typeT_len _ (by show _ ≤ (0 : Int); omega) (by show (0 : Int) ≤ _; omega)
              have H24' := Aside0.mk (fun W h3 => H24.out ⟨f2, 0⟩ W ⟨Int.le_refl 0, by show (0 : Int) ≤ 16; decide⟩ h3)
              rw [← htt] at H24'
              have HTD : Aside0 (tt.data.toList = typeT ⟨f2, 0⟩) := ⟨by rw [htt, bytesOfL_data]⟩
              have HPL : Aside0 ((TX ++ f0.data.toList ++ paramsL f1).length + (3 + tt.size + 1) ≤ 140737488355328) := ⟨by
                have h1 := rightB_parts HB1.out.symm
                have h2 := paramsL_len h1.2 f1.length (Nat.le_refl _)
                rw [List.take_length] at h2
                have h3 := HLEN.out
                have h5 := h1.1
                have h6 := HTL.out
                simp only [List.length_append]
                have : f0.data.toList.length = f0.size := by simp
                simp only at h2 h5
                omega⟩
              have c7 : 3 + tt.size ≤ 9223372036854775807 := by omega
              have c7b0 := eq_true c7
              have c7b1 : decide (3 + tt.size ≤ 9223372036854775807) = true := decide_eq_true c7
              have c7b2 : (9223372036854775807 < 3 + tt.size) = False := eq_false (Nat.not_lt.2 c7)
              have c8 : 3 + tt.size + 1 ≤ 9223372036854775807 := by omega
              have c8b0 := eq_true c8
              have c8b1 : decide (3 + tt.size + 1 ≤ 9223372036854775807) = true := decide_eq_true c8
              have c8b2 : (9223372036854775807 < 3 + tt.size + 1) = False := eq_false (Nat.not_lt.2 c8)
              have HTL2 : Aside0 (tt.size ≤ 24) := ⟨htl⟩
              have HBJ := Aside0.mk HTJ.out.bel
              clear hje htt htl c7 c8
              go_wp2_with (first
                | (go_at_call 23; refine (H23.out w7 _ _ _ _ T7.out (by rw [ByteArray.size_append, ByteArray.size_append]; exact HPL.out)).mono ?_; rintro e8 w8 ⟨rfl, hq1, hq2, hq3⟩; have T8 := Aside0.mk (T7.out.written _ hq1 hq2 hq3); clear hq1 hq2 hq3)
                | (go_at_call 24; refine (H24'.out _ (HG.out.below HBJ.out)).mono ?_; rintro e7 w7 ⟨rfl, hb7⟩; have T7 := Aside0.mk (HTJ.out.below hb7); clear hb7 d2))
              have hn := take_next HX.out
              have hlin : textL (l0.take (i + 1)) = TX ++ f0.data.toList ++ paramsL f1 ++ ((⟨#[32, 58, 32]⟩ ++ tt ++ ⟨#[10]⟩ : ByteArray)).data.toList := by
                rw [hn.1, ← HTX.out, ByteArray.data_append, ByteArray.data_append, Array.toList_append, Array.toList_append, HTD.out]
                unfold lineL
                simp only [List.append_assoc]
                first | done | rfl
              have H9 := Aside0.mk (show Tx w w8 w.heap.size (w.heap.size + 1) (i + 1) (namesR (l0.take (i + 1))) (textL (l0.take (i + 1))) by
                rw [hlin, hn.2.1, ← HNM.out]; exact T8.out)
              have H10 : Aside0 ((textL (l0.take (i + 1))).length ≤ (i + 1) * 2000000000) := ⟨by
                rw [hlin]
                have h1 := rightB_parts HB1.out.symm
                have h2 := paramsL_len h1.2 f1.length (Nat.le_refl _)
                rw [List.take_length] at h2
                have h6 := HTL.out
                have h7 := HTL2.out
                have h8 := HF6.out
                rw [List.length_append, List.length_append, List.length_append]
                have e1 : f0.data.toList.length = f0.size := by simp
                have e2 : ((⟨#[32, 58, 32]⟩ ++ tt ++ ⟨#[10]⟩ : ByteArray)).data.toList.length = 3 + tt.size + 1 := by
                  rw [Array.length_toList]
                  show (_ : ByteArray).size = _
                  rw [ByteArray.size_append, ByteArray.size_append]; rfl
                rw [e1, e2]
                try simp only at h2
                omega⟩
              have H11 : Aside0 ((l0.take (i + 1)).all rightB = true) := ⟨by rw [hn.2.2, HRT.out, ← HB1.out]; rfl⟩
              have H12 := Aside0.mk hn.2.1
              clear hn hlin
              go_roundw
              case rel =>
                refine ⟨wrap64 (z + 1), i + 1, hlt, ⟨by have := HZ.out; unfold wrap64; omega⟩, H9, H10, H11, ?_, rfl⟩
                rw [H12.out]
                show _ = Value.bool (twR (namesR (l0.take i)) || memB f0 (namesR (l0.take i)))
                rw [← HTV.out, ← HNM.out, ← HMB.out]
                first | rfl | simp
              case measure => have := HZ.out; simp [intOf]; unfold wrap64; omega
    · have c1 : decide (z < (N : Int)) = false := by have := HZ.out; rw [decide_eq_false_iff_not]; omega
      have hie : l0.take i = l0 := List.take_of_length_le (by have := HN.out; omega)
      rw [hie] at HT HTL HRT ⊢
      obtain ⟨tv, htv⟩ : ∃ t, t = twR (namesR l0) := ⟨_, rfl⟩
      rw [← htv]
      have hpp := HP.out
      unfold textP at hpp
      rw [if_pos HRT.out, ← htv] at hpp
      have H25 := Aside0.mk (Tryd.Builder_String_any w.heap.size w.heap.size (textL l0) W0 HT.out.bld HT.out.bel.size)
      have HB := Aside0.mk HT.out.bel
      clear hie htv
      cases tv with
      | true =>
        obtain ⟨rfl, rfl⟩ : ByteArray.empty = r1 ∧ (9 : Int) = r2 := by simpa using hpp
        clear hpp
        go_wp2_with fail
        go_ret2
        exact ⟨rfl, HB.out⟩
      | false =>
        obtain ⟨rfl, rfl⟩ : bytesOfL (textL l0) = r1 ∧ (0 : Int) = r2 := by simpa using hpp
        clear hpp
        go_wp2_with (go_at_call 25; refine H25.out.mono ?_; rintro e3 w3 ⟨rfl, hb3⟩; have HB3 := Aside0.mk (HB.out.trans hb3); clear hb3)
        go_ret2
        exact ⟨rfl, HB3.out⟩
end Go.Proofs.YtappdmioncdefaaDoor.Q
