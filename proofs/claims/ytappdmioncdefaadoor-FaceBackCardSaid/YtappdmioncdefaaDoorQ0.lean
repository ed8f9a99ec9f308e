-- WRITTEN BY A PROGRAM OF THIS SESSION
import Derived.Test.YtappdmioncdefaaDoorProg
import Derived.Below
import Derived.Deep.Draws
import Derived.Deep.AppendLies
import Derived.Maps.AppendAt
import Derived.OwnWalk
import Derived.Laws.BytesArg
import Derived.Laws.MakeOwn
import Derived.Laws.OwnMore
import Derived.Deep.OwnRows
import Derived.Tactics
import Derived.Lib.ConvBytes
import Derived.Laws.Slices
import Derived.WalkKit
import Derived.KernelRfl
import Derived.RowKit3
import Derived.Deep.LoopGhost
import Derived.Deep.QuietTactic
import Derived.BigQuiet
import Derived.WideLaws
import Derived.Deep.DeepCutAuto
import Derived.Deep.CutBlock
import Derived.Deep.RegionHeld3
import Derived.Laws.Rows
import Derived.Lib.AppendStr
import Derived.ArgAppend
import Derived.Laws.IdiomCopy
import Derived.OrdersHeld
import Derived.Laws.BitsLemmas
import Derived.RowKit
import Derived.Test.YtappdmioncdefaaDoorWWords
import Derived.Test.YtappdmioncdefaaDoorWLast
import Derived.Test.YtappdmioncdefaaDoorWTab
import Derived.Test.YtappdmioncdefaaDoorWQPut
import Derived.Test.YtappdmioncdefaaDoorWApart
import Derived.Test.YtappdmioncdefaaDoorWArr
import Derived.Test.YtappdmioncdefaaDoorWZeros
import Derived.Test.YtappdmioncdefaaDoorWFoot
import Derived.Test.YtappdmioncdefaaDoorWKept
import Derived.Test.YtappdmioncdefaaDoorWShare
import Derived.Test.YtappdmioncdefaaDoorWN
import Derived.Test.YtappdmioncdefaaDoorWEqStruct
import Derived.Test.YtappdmioncdefaaDoorWRepsOne
import Derived.Test.YtappdmioncdefaaDoorWGuard
import Derived.Test.YtappdmioncdefaaDoorWNEv
import Derived.Test.YtappdmioncdefaaDoorWMore
namespace Go.Proofs.YtappdmioncdefaaDoor.Q
open Go.RowKit Go.Proofs.YtappdmioncdefaaDoorW.PrintWords Go.Proofs.YtappdmioncdefaaDoorW.PrintLast Go.Proofs.YtappdmioncdefaaDoorW.PrintMore
attribute [local go_sem] max2_int min2_int max_two min_two max_three min_three max_four min_four   -- for this text's walks alone
set_option linter.unusedVariables false
set_option linter.unusedSimpArgs false



def errW : Option Int → Value
  | none => .nilIface
  | some c => .iface 0 (.int .i64 c)
theorem errW_none : errW none = .nilIface := rfl
theorem errW_some (c : Int) : errW (some c) = .iface 0 (.int .i64 c) := rfl

theorem info5 : (Tryd.prog.info? 5).map (fun i => (i.zero, i.size, i.bytes)) = some (some (.int .u8 0), 1, 1) := by kernel_rfl
theorem info9 : (Tryd.prog.info? 9).map (fun i => (i.zero, i.size, i.bytes)) = some (some (.string ⟨#[]⟩), 1, 16) := by kernel_rfl
theorem info34 : (Tryd.prog.info? 34).map (fun i => (i.zero, i.size, i.bytes)) = some (some (.agg #[(.string ⟨#[]⟩), (.slice none 0 0), (.bool false)]), 3, 48) := by kernel_rfl
theorem info46 : (Tryd.prog.info? 46).map (fun i => (i.zero, i.size, i.bytes)) = some (some (.agg #[(.bool false), (.int .i64 0)]), 2, 16) := by kernel_rfl
theorem info70 : (Tryd.prog.info? 70).map (fun i => (i.zero, i.size, i.bytes)) = some (some (.agg #[(.int .i64 0), (.int .u32 0), (.int .i64 0), (.string ⟨#[]⟩), (.slice none 0 0)]), 5, 64) := by kernel_rfl
-- the values' own types
/-! #### struct type 46 -/
structure S46 where
  f0 : Bool
  f1 : Int
def z46 : S46 := ⟨false, (0 : Int)⟩
def k46 : Kd S46 := Kd.iso (Kd.pair Kd.bool (Kd.int .i64)) (fun x : S46 => (x.f0, x.f1))
theorem k46_heap : Kd.Heap k46 := Kd.heap_iso _ (Kd.heap_pair Kd.heap_bool (Kd.heap_int .i64))
theorem k46_open {w : World} {x : S46} {cs : List Value} (h : k46.K w x cs) : cs = [.bool x.f0, .int .i64 x.f1] := by
  obtain ⟨_, _, rfl, rfl, rfl⟩ := h
  exact rfl
theorem k46_openM {w : World} {base : Nat} {ok : Nat → Prop} {x : S46} {cs : List Value} (h : k46.M w base ok x cs) : cs = [.bool x.f0, .int .i64 x.f1] := by
  obtain ⟨_, _, rfl, rfl, rfl⟩ := h
  exact rfl
theorem k46_mk (w : World) (x : S46)  : k46.K w x [.bool x.f0, .int .i64 x.f1] := ⟨[.bool x.f0], [.int .i64 x.f1], rfl, rfl, rfl⟩
theorem k46_mkM (w : World) (base : Nat) (ok : Nat → Prop) (x : S46)  : k46.M w base ok x [.bool x.f0, .int .i64 x.f1] := ⟨[.bool x.f0], [.int .i64 x.f1], rfl, rfl, rfl⟩
theorem k46_mkF (W : World) (ok : Nat → Prop) (x : S46) : Kd.FK k46 W ok x [.bool x.f0, .int .i64 x.f1] := fun W2 _ => k46_mk W2 x
def rd_T46 (xs : List S46) (i : Int) : S46 := xs.getD i.toNat z46
theorem at_T46 {w : World} {A : Option Addr} {n : Nat} {xs : List S46} (h : Kd.C k46 w A n xs) (i : Int) (h0 : 0 ≤ i) (h1 : i < n) : ∃ ad , A = some ad ∧ w.cell? (ad.add (i.toNat * 2)) = some (.bool (rd_T46 xs i).f0) ∧ w.cell? ⟨(ad.add (i.toNat * 2)).block, (ad.add (i.toNat * 2)).off + 1, none⟩ = some (.int .i64 (rd_T46 xs i).f1) := by
  obtain ⟨ad, c, e, _, hK, hc0⟩ := Kd.C_get h z46 i h0 h1
  have hc : ∀ j u, c[j]? = some u → w.cell? (ad.add (i.toNat * 2 + j)) = some u := hc0
  obtain rfl := k46_open hK
  exact ⟨ad, e, hc 0 _ rfl, by rw [← add_field _ _ 1 (by omega)]; exact hc 1 _ rfl⟩

def rd_L4 (xs : List (List S46)) (i : Int) : (List S46) := xs.getD i.toNat ([] : List S46)
theorem at_L4 {w : World} {A : Option Addr} {n : Nat} {xs : List (List S46)} (h : Kd.C (Kd.slice 46 k46) w A n xs) (i : Int) (h0 : 0 ≤ i) (h1 : i < n) : ∃ ad A0 c0, A = some ad ∧ w.cell? (ad.add i.toNat) = some (.slice A0 (rd_L4 xs i).length c0) ∧ (rd_L4 xs i).length ≤ c0 ∧ k46.C w A0 (rd_L4 xs i).length (rd_L4 xs i) := by
  obtain ⟨ad, c, e, _, hK, hc0⟩ := Kd.C_get h ([] : List S46) i h0 h1
  have hc : ∀ j u, c[j]? = some u → w.cell? (ad.add (i.toNat * 1 + j)) = some u := hc0
  obtain ⟨A0, c0, rfl, l0, g0⟩ := hK
  exact ⟨ad, A0, c0, e, by have hq := hc 0 _ rfl; rwa [Nat.mul_one, Nat.add_zero] at hq, l0, g0⟩

/-! #### struct type 34 -/
structure S34 where
  f0 : ByteArray
  f1 : (List S46)
  f2 : Bool
def z34 : S34 := ⟨(⟨#[]⟩ : ByteArray), ([] : List S46), false⟩
def k34 : Kd S34 := Kd.iso (Kd.pair Kd.string (Kd.pair (Kd.slice 46 k46) Kd.bool)) (fun x : S34 => (x.f0, x.f1, x.f2))
theorem k34_heap : Kd.Heap k34 := Kd.heap_iso _ (Kd.heap_pair Kd.heap_string (Kd.heap_pair (Kd.heap_slice 46 k46_heap) Kd.heap_bool))
theorem k34_open {w : World} {x : S34} {cs : List Value} (h : k34.K w x cs) : ∃ A1 c1, cs = [.string x.f0, .slice A1 x.f1.length c1, .bool x.f2] ∧ x.f1.length ≤ c1 ∧ k46.C w A1 x.f1.length x.f1 := by
  obtain ⟨_, _, rfl, rfl, ⟨_, _, rfl, ⟨A1, c1, rfl, l1, g1⟩, rfl⟩⟩ := h
  exact ⟨A1, c1, rfl, l1, g1⟩
theorem k34_openM {w : World} {base : Nat} {ok : Nat → Prop} {x : S34} {cs : List Value} (h : k34.M w base ok x cs) : ∃ v1, cs = [.string x.f0, v1, .bool x.f2] ∧ k46.R 46 w base ok v1 x.f1 := by
  obtain ⟨_, _, rfl, rfl, ⟨_, _, rfl, ⟨v1, rfl, g1⟩, rfl⟩⟩ := h
  exact ⟨v1, rfl, g1⟩
theorem k34_mk (w : World) (x : S34) {A1 : Option Addr} {c1 : Nat} (l1 : x.f1.length ≤ c1) (g1 : k46.C w A1 x.f1.length x.f1) : k34.K w x [.string x.f0, .slice A1 x.f1.length c1, .bool x.f2] := ⟨[.string x.f0], [.slice A1 x.f1.length c1, .bool x.f2], rfl, rfl, ⟨[.slice A1 x.f1.length c1], [.bool x.f2], rfl, ⟨A1, c1, rfl, l1, g1⟩, rfl⟩⟩
theorem k34_mkM (w : World) (base : Nat) (ok : Nat → Prop) (x : S34) {v1 : Value} (g1 : k46.R 46 w base ok v1 x.f1) : k34.M w base ok x [.string x.f0, v1, .bool x.f2] := ⟨[.string x.f0], [v1, .bool x.f2], rfl, rfl, ⟨[v1], [.bool x.f2], rfl, ⟨v1, rfl, g1⟩, rfl⟩⟩
theorem k34_openF {W : World} {ok : Nat → Prop} {x : S34} {cs : List Value} (h : Kd.FK k34 W ok x cs) : ∃ A1 c1, cs = [.string x.f0, .slice A1 x.f1.length c1, .bool x.f2] ∧ x.f1.length ≤ c1 ∧ Kd.F k46 W ok A1 x.f1.length x.f1 := by
  obtain ⟨A1, c1, rfl, l1, _⟩ := k34_open (Kd.FK_now h)
  exact ⟨A1, c1, rfl, l1, (fun W' hW => by obtain ⟨A1_, c1_, he, l1_, g1_⟩ := k34_open (h W' hW); injection (Option.some.inj (show some (Value.slice A1 x.f1.length c1) = some (Value.slice A1_ x.f1.length c1_) from congrArg (fun l => l[1]?) he)) with ha_ _ _; rw [ha_]; exact g1_)⟩
theorem k34_mkF (W : World) (ok : Nat → Prop) (x : S34) {A1 : Option Addr} {c1 : Nat} (l1 : x.f1.length ≤ c1) (g1 : Kd.F k46 W ok A1 x.f1.length x.f1) : Kd.FK k34 W ok x [.string x.f0, .slice A1 x.f1.length c1, .bool x.f2] := fun W2 hW => k34_mk W2 x l1 (g1 W2 hW)
def rd_T34 (xs : List S34) (i : Int) : S34 := xs.getD i.toNat z34
theorem at_T34 {w : World} {A : Option Addr} {n : Nat} {xs : List S34} (h : Kd.C k34 w A n xs) (i : Int) (h0 : 0 ≤ i) (h1 : i < n) : ∃ ad A1 c1, A = some ad ∧ w.cell? (ad.add (i.toNat * 3)) = some (.string (rd_T34 xs i).f0) ∧ w.cell? ⟨(ad.add (i.toNat * 3)).block, (ad.add (i.toNat * 3)).off + 1, none⟩ = some (.slice A1 (rd_T34 xs i).f1.length c1) ∧ w.cell? ⟨(ad.add (i.toNat * 3)).block, (ad.add (i.toNat * 3)).off + 2, none⟩ = some (.bool (rd_T34 xs i).f2) ∧ (rd_T34 xs i).f1.length ≤ c1 ∧ k46.C w A1 (rd_T34 xs i).f1.length (rd_T34 xs i).f1 := by
  obtain ⟨ad, c, e, _, hK, hc0⟩ := Kd.C_get h z34 i h0 h1
  have hc : ∀ j u, c[j]? = some u → w.cell? (ad.add (i.toNat * 3 + j)) = some u := hc0
  obtain ⟨A1, c1, rfl, l1, g1⟩ := k34_open hK
  exact ⟨ad, A1, c1, e, hc 0 _ rfl, by rw [← add_field _ _ 1 (by omega)]; exact hc 1 _ rfl, by rw [← add_field _ _ 2 (by omega)]; exact hc 2 _ rfl, l1, g1⟩

/-! #### struct type 70, nested in itself -/
structure S70 where
  f0 : Int
  f1 : Int
  f2 : Int
  f3 : ByteArray
  f4 : (List S70)
def z70 : S70 := ⟨(0 : Int), (0 : Int), (0 : Int), (⟨#[]⟩ : ByteArray), ([] : List S70)⟩
def F70 (d : Kd S70) : Kd S70 := Kd.iso (Kd.pair (Kd.int .i64) (Kd.pair (Kd.int .u32) (Kd.pair (Kd.int .i64) (Kd.pair Kd.string (Kd.slice 70 d))))) (fun x : S70 => (x.f0, x.f1, x.f2, x.f3, x.f4))
theorem mono70 : Kd.Mono F70 := Kd.mono_iso _ (Kd.mono_pair (Kd.mono_const _) (Kd.mono_pair (Kd.mono_const _) (Kd.mono_pair (Kd.mono_const _) (Kd.mono_pair (Kd.mono_const _) (Kd.mono_slice 70 Kd.mono_id)))))
theorem sub70 : Kd.Sub F70 [70] := Kd.sub_iso _ (Kd.sub_pair (Kd.sub_const _ (by decide)) (Kd.sub_pair (Kd.sub_const _ (by decide)) (Kd.sub_pair (Kd.sub_const _ (by decide)) (Kd.sub_pair (Kd.sub_const _ (by decide)) (Kd.sub_slice 70 (by decide) Kd.sub_id)))))
theorem sz70 : ∀ n, (Kd.upto F70 5 [70] n).sz = 5 := Kd.upto_sz (fun _ => rfl)
def k70 : Kd S70 := Kd.fix F70 5 [70] sz70 (Kd.upto_E sub70)
theorem k70_heap : Kd.Heap k70 := Kd.heap_fix (fun _ h_ => Kd.heap_iso _ (Kd.heap_pair (Kd.heap_int .i64) (Kd.heap_pair (Kd.heap_int .u32) (Kd.heap_pair (Kd.heap_int .i64) (Kd.heap_pair Kd.heap_string (Kd.heap_slice 70 h_))))))
theorem k70_open {w : World} {x : S70} {cs : List Value} (h : k70.K w x cs) : ∃ A4 c4, cs = [.int .i64 x.f0, .int .u32 x.f1, .int .i64 x.f2, .string x.f3, .slice A4 x.f4.length c4] ∧ x.f4.length ≤ c4 ∧ k70.C w A4 x.f4.length x.f4 := by
  obtain ⟨n, h⟩ := h
  cases n with
  | zero => exact h.elim
  | succ n =>
    obtain ⟨_, _, rfl, rfl, ⟨_, _, rfl, rfl, ⟨_, _, rfl, rfl, ⟨_, _, rfl, rfl, ⟨A4, c4, rfl, l4, g4⟩⟩⟩⟩⟩ := h
    exact ⟨A4, c4, rfl, l4, Kd.fix_C g4⟩
theorem k70_openM {w : World} {base : Nat} {ok : Nat → Prop} {x : S70} {cs : List Value} (h : k70.M w base ok x cs) : ∃ v4, cs = [.int .i64 x.f0, .int .u32 x.f1, .int .i64 x.f2, .string x.f3, v4] ∧ k70.R 70 w base ok v4 x.f4 := by
  obtain ⟨n, h⟩ := h
  cases n with
  | zero => exact h.elim
  | succ n =>
    obtain ⟨_, _, rfl, rfl, ⟨_, _, rfl, rfl, ⟨_, _, rfl, rfl, ⟨_, _, rfl, rfl, ⟨v4, rfl, g4⟩⟩⟩⟩⟩ := h
    exact ⟨v4, rfl, Kd.fix_R g4⟩
theorem k70_mk (w : World) (x : S70) {A4 : Option Addr} {c4 : Nat} (l4 : x.f4.length ≤ c4) (g4 : k70.C w A4 x.f4.length x.f4) : k70.K w x [.int .i64 x.f0, .int .u32 x.f1, .int .i64 x.f2, .string x.f3, .slice A4 x.f4.length c4] := by
  obtain ⟨n4, q4⟩ := Kd.fix_C_back mono70 g4
  have r4 := Kd.upto_C_le mono70 sz70 (show n4 ≤ n4 by omega) q4
  exact ⟨n4 + 1, ⟨[.int .i64 x.f0], [.int .u32 x.f1, .int .i64 x.f2, .string x.f3, .slice A4 x.f4.length c4], rfl, rfl, ⟨[.int .u32 x.f1], [.int .i64 x.f2, .string x.f3, .slice A4 x.f4.length c4], rfl, rfl, ⟨[.int .i64 x.f2], [.string x.f3, .slice A4 x.f4.length c4], rfl, rfl, ⟨[.string x.f3], [.slice A4 x.f4.length c4], rfl, rfl, ⟨A4, c4, rfl, l4, r4⟩⟩⟩⟩⟩⟩
theorem k70_mkM (w : World) (base : Nat) (ok : Nat → Prop) (x : S70) {v4 : Value} (g4 : k70.R 70 w base ok v4 x.f4) : k70.M w base ok x [.int .i64 x.f0, .int .u32 x.f1, .int .i64 x.f2, .string x.f3, v4] := by
  obtain ⟨n4, q4⟩ := Kd.fix_R_back mono70 g4
  have r4 := Kd.upto_R_le mono70 sz70 (show n4 ≤ n4 by omega) q4
  exact ⟨n4 + 1, ⟨[.int .i64 x.f0], [.int .u32 x.f1, .int .i64 x.f2, .string x.f3, v4], rfl, rfl, ⟨[.int .u32 x.f1], [.int .i64 x.f2, .string x.f3, v4], rfl, rfl, ⟨[.int .i64 x.f2], [.string x.f3, v4], rfl, rfl, ⟨[.string x.f3], [v4], rfl, rfl, ⟨v4, rfl, r4⟩⟩⟩⟩⟩⟩
theorem k70_openF {W : World} {ok : Nat → Prop} {x : S70} {cs : List Value} (h : Kd.FK k70 W ok x cs) : ∃ A4 c4, cs = [.int .i64 x.f0, .int .u32 x.f1, .int .i64 x.f2, .string x.f3, .slice A4 x.f4.length c4] ∧ x.f4.length ≤ c4 ∧ Kd.F k70 W ok A4 x.f4.length x.f4 := by
  obtain ⟨A4, c4, rfl, l4, _⟩ := k70_open (Kd.FK_now h)
  exact ⟨A4, c4, rfl, l4, (fun W' hW => by obtain ⟨A4_, c4_, he, l4_, g4_⟩ := k70_open (h W' hW); injection (Option.some.inj (show some (Value.slice A4 x.f4.length c4) = some (Value.slice A4_ x.f4.length c4_) from congrArg (fun l => l[4]?) he)) with ha_ _ _; rw [ha_]; exact g4_)⟩
theorem k70_mkF (W : World) (ok : Nat → Prop) (x : S70) {A4 : Option Addr} {c4 : Nat} (l4 : x.f4.length ≤ c4) (g4 : Kd.F k70 W ok A4 x.f4.length x.f4) : Kd.FK k70 W ok x [.int .i64 x.f0, .int .u32 x.f1, .int .i64 x.f2, .string x.f3, .slice A4 x.f4.length c4] := fun W2 hW => k70_mk W2 x l4 (g4 W2 hW)
def rd_T70 (xs : List S70) (i : Int) : S70 := xs.getD i.toNat z70
theorem at_T70 {w : World} {A : Option Addr} {n : Nat} {xs : List S70} (h : Kd.C k70 w A n xs) (i : Int) (h0 : 0 ≤ i) (h1 : i < n) : ∃ ad A4 c4, A = some ad ∧ w.cell? (ad.add (i.toNat * 5)) = some (.int .i64 (rd_T70 xs i).f0) ∧ w.cell? ⟨(ad.add (i.toNat * 5)).block, (ad.add (i.toNat * 5)).off + 1, none⟩ = some (.int .u32 (rd_T70 xs i).f1) ∧ w.cell? ⟨(ad.add (i.toNat * 5)).block, (ad.add (i.toNat * 5)).off + 2, none⟩ = some (.int .i64 (rd_T70 xs i).f2) ∧ w.cell? ⟨(ad.add (i.toNat * 5)).block, (ad.add (i.toNat * 5)).off + 3, none⟩ = some (.string (rd_T70 xs i).f3) ∧ w.cell? ⟨(ad.add (i.toNat * 5)).block, (ad.add (i.toNat * 5)).off + 4, none⟩ = some (.slice A4 (rd_T70 xs i).f4.length c4) ∧ (rd_T70 xs i).f4.length ≤ c4 ∧ k70.C w A4 (rd_T70 xs i).f4.length (rd_T70 xs i).f4 := by
  obtain ⟨ad, c, e, _, hK, hc0⟩ := Kd.C_get h z70 i h0 h1
  have hc : ∀ j u, c[j]? = some u → w.cell? (ad.add (i.toNat * 5 + j)) = some u := hc0
  obtain ⟨A4, c4, rfl, l4, g4⟩ := k70_open hK
  exact ⟨ad, A4, c4, e, hc 0 _ rfl, by rw [← add_field _ _ 1 (by omega)]; exact hc 1 _ rfl, by rw [← add_field _ _ 2 (by omega)]; exact hc 2 _ rfl, by rw [← add_field _ _ 3 (by omega)]; exact hc 3 _ rfl, by rw [← add_field _ _ 4 (by omega)]; exact hc 4 _ rfl, l4, g4⟩

/-! #### struct type 87, nested in itself -/
structure S87 where
  f0 : Int
  f1 : ByteArray
  f2 : S46
  f3 : Int
  f4 : Int
  f5 : S70
  f6 : S70
  f7 : (List S87)
  f8 : (List S87)
def z87 : S87 := ⟨(0 : Int), (⟨#[]⟩ : ByteArray), z46, (0 : Int), (0 : Int), z70, z70, ([] : List S87), ([] : List S87)⟩
def F87 (d : Kd S87) : Kd S87 := Kd.iso (Kd.pair (Kd.int .i64) (Kd.pair Kd.string (Kd.pair k46 (Kd.pair (Kd.int .i64) (Kd.pair (Kd.int .i64) (Kd.pair k70 (Kd.pair k70 (Kd.pair (Kd.slice 87 d) (Kd.slice 87 d))))))))) (fun x : S87 => (x.f0, x.f1, x.f2, x.f3, x.f4, x.f5, x.f6, x.f7, x.f8))
theorem mono87 : Kd.Mono F87 := Kd.mono_iso _ (Kd.mono_pair (Kd.mono_const _) (Kd.mono_pair (Kd.mono_const _) (Kd.mono_pair (Kd.mono_const _) (Kd.mono_pair (Kd.mono_const _) (Kd.mono_pair (Kd.mono_const _) (Kd.mono_pair (Kd.mono_const _) (Kd.mono_pair (Kd.mono_const _) (Kd.mono_pair (Kd.mono_slice 87 Kd.mono_id) (Kd.mono_slice 87 Kd.mono_id)))))))))
theorem sub87 : Kd.Sub F87 [70, 87] := Kd.sub_iso _ (Kd.sub_pair (Kd.sub_const _ (by decide)) (Kd.sub_pair (Kd.sub_const _ (by decide)) (Kd.sub_pair (Kd.sub_const _ (by decide)) (Kd.sub_pair (Kd.sub_const _ (by decide)) (Kd.sub_pair (Kd.sub_const _ (by decide)) (Kd.sub_pair (Kd.sub_const _ (by decide)) (Kd.sub_pair (Kd.sub_const _ (by decide)) (Kd.sub_pair (Kd.sub_slice 87 (by decide) Kd.sub_id) (Kd.sub_slice 87 (by decide) Kd.sub_id)))))))))
theorem sz87 : ∀ n, (Kd.upto F87 18 [70, 87] n).sz = 18 := Kd.upto_sz (fun _ => rfl)
def k87 : Kd S87 := Kd.fix F87 18 [70, 87] sz87 (Kd.upto_E sub87)
theorem k87_heap : Kd.Heap k87 := Kd.heap_fix (fun _ h_ => Kd.heap_iso _ (Kd.heap_pair (Kd.heap_int .i64) (Kd.heap_pair Kd.heap_string (Kd.heap_pair k46_heap (Kd.heap_pair (Kd.heap_int .i64) (Kd.heap_pair (Kd.heap_int .i64) (Kd.heap_pair k70_heap (Kd.heap_pair k70_heap (Kd.heap_pair (Kd.heap_slice 87 h_) (Kd.heap_slice 87 h_))))))))))
theorem k87_open {w : World} {x : S87} {cs : List Value} (h : k87.K w x cs) : ∃ A10 c10 A15 c15 A16 c16 A17 c17, cs = [.int .i64 x.f0, .string x.f1, .bool x.f2.f0, .int .i64 x.f2.f1, .int .i64 x.f3, .int .i64 x.f4, .int .i64 x.f5.f0, .int .u32 x.f5.f1, .int .i64 x.f5.f2, .string x.f5.f3, .slice A10 x.f5.f4.length c10, .int .i64 x.f6.f0, .int .u32 x.f6.f1, .int .i64 x.f6.f2, .string x.f6.f3, .slice A15 x.f6.f4.length c15, .slice A16 x.f7.length c16, .slice A17 x.f8.length c17] ∧ x.f5.f4.length ≤ c10 ∧ k70.C w A10 x.f5.f4.length x.f5.f4 ∧ x.f6.f4.length ≤ c15 ∧ k70.C w A15 x.f6.f4.length x.f6.f4 ∧ x.f7.length ≤ c16 ∧ k87.C w A16 x.f7.length x.f7 ∧ x.f8.length ≤ c17 ∧ k87.C w A17 x.f8.length x.f8 := by
  obtain ⟨n, h⟩ := h
  cases n with
  | zero => exact h.elim
  | succ n =>
    obtain ⟨_, _, rfl, rfl, ⟨_, _, rfl, rfl, ⟨_, _, rfl, s2, ⟨_, _, rfl, rfl, ⟨_, _, rfl, rfl, ⟨_, _, rfl, s6, ⟨_, _, rfl, s11, ⟨_, _, rfl, ⟨A16, c16, rfl, l16, g16⟩, ⟨A17, c17, rfl, l17, g17⟩⟩⟩⟩⟩⟩⟩⟩⟩ := h
    obtain rfl := k46_open s2
    obtain ⟨A10, c10, rfl, l10, g10⟩ := k70_open s6
    obtain ⟨A15, c15, rfl, l15, g15⟩ := k70_open s11
    exact ⟨A10, c10, A15, c15, A16, c16, A17, c17, rfl, l10, g10, l15, g15, l16, Kd.fix_C g16, l17, Kd.fix_C g17⟩
theorem k87_openM {w : World} {base : Nat} {ok : Nat → Prop} {x : S87} {cs : List Value} (h : k87.M w base ok x cs) : ∃ v10 v15 v16 v17, cs = [.int .i64 x.f0, .string x.f1, .bool x.f2.f0, .int .i64 x.f2.f1, .int .i64 x.f3, .int .i64 x.f4, .int .i64 x.f5.f0, .int .u32 x.f5.f1, .int .i64 x.f5.f2, .string x.f5.f3, v10, .int .i64 x.f6.f0, .int .u32 x.f6.f1, .int .i64 x.f6.f2, .string x.f6.f3, v15, v16, v17] ∧ k70.R 70 w base ok v10 x.f5.f4 ∧ k70.R 70 w base ok v15 x.f6.f4 ∧ k87.R 87 w base ok v16 x.f7 ∧ k87.R 87 w base ok v17 x.f8 := by
  obtain ⟨n, h⟩ := h
  cases n with
  | zero => exact h.elim
  | succ n =>
    obtain ⟨_, _, rfl, rfl, ⟨_, _, rfl, rfl, ⟨_, _, rfl, s2, ⟨_, _, rfl, rfl, ⟨_, _, rfl, rfl, ⟨_, _, rfl, s6, ⟨_, _, rfl, s11, ⟨_, _, rfl, ⟨v16, rfl, g16⟩, ⟨v17, rfl, g17⟩⟩⟩⟩⟩⟩⟩⟩⟩ := h
    obtain rfl := k46_openM s2
    obtain ⟨v10, rfl, g10⟩ := k70_openM s6
    obtain ⟨v15, rfl, g15⟩ := k70_openM s11
    exact ⟨v10, v15, v16, v17, rfl, g10, g15, Kd.fix_R g16, Kd.fix_R g17⟩
theorem k87_mk (w : World) (x : S87) {A10 : Option Addr} {c10 : Nat} (l10 : x.f5.f4.length ≤ c10) (g10 : k70.C w A10 x.f5.f4.length x.f5.f4) {A15 : Option Addr} {c15 : Nat} (l15 : x.f6.f4.length ≤ c15) (g15 : k70.C w A15 x.f6.f4.length x.f6.f4) {A16 : Option Addr} {c16 : Nat} (l16 : x.f7.length ≤ c16) (g16 : k87.C w A16 x.f7.length x.f7) {A17 : Option Addr} {c17 : Nat} (l17 : x.f8.length ≤ c17) (g17 : k87.C w A17 x.f8.length x.f8) : k87.K w x [.int .i64 x.f0, .string x.f1, .bool x.f2.f0, .int .i64 x.f2.f1, .int .i64 x.f3, .int .i64 x.f4, .int .i64 x.f5.f0, .int .u32 x.f5.f1, .int .i64 x.f5.f2, .string x.f5.f3, .slice A10 x.f5.f4.length c10, .int .i64 x.f6.f0, .int .u32 x.f6.f1, .int .i64 x.f6.f2, .string x.f6.f3, .slice A15 x.f6.f4.length c15, .slice A16 x.f7.length c16, .slice A17 x.f8.length c17] := by
  obtain ⟨n16, q16⟩ := Kd.fix_C_back mono87 g16
  obtain ⟨n17, q17⟩ := Kd.fix_C_back mono87 g17
  have r16 := Kd.upto_C_le mono87 sz87 (show n16 ≤ (max n16 n17) by omega) q16
  have r17 := Kd.upto_C_le mono87 sz87 (show n17 ≤ (max n16 n17) by omega) q17
  exact ⟨(max n16 n17) + 1, ⟨[.int .i64 x.f0], [.string x.f1, .bool x.f2.f0, .int .i64 x.f2.f1, .int .i64 x.f3, .int .i64 x.f4, .int .i64 x.f5.f0, .int .u32 x.f5.f1, .int .i64 x.f5.f2, .string x.f5.f3, .slice A10 x.f5.f4.length c10, .int .i64 x.f6.f0, .int .u32 x.f6.f1, .int .i64 x.f6.f2, .string x.f6.f3, .slice A15 x.f6.f4.length c15, .slice A16 x.f7.length c16, .slice A17 x.f8.length c17], rfl, rfl, ⟨[.string x.f1], [.bool x.f2.f0, .int .i64 x.f2.f1, .int .i64 x.f3, .int .i64 x.f4, .int .i64 x.f5.f0, .int .u32 x.f5.f1, .int .i64 x.f5.f2, .string x.f5.f3, .slice A10 x.f5.f4.length c10, .int .i64 x.f6.f0, .int .u32 x.f6.f1, .int .i64 x.f6.f2, .string x.f6.f3, .slice A15 x.f6.f4.length c15, .slice A16 x.f7.length c16, .slice A17 x.f8.length c17], rfl, rfl, ⟨[.bool x.f2.f0, .int .i64 x.f2.f1], [.int .i64 x.f3, .int .i64 x.f4, .int .i64 x.f5.f0, .int .u32 x.f5.f1, .int .i64 x.f5.f2, .string x.f5.f3, .slice A10 x.f5.f4.length c10, .int .i64 x.f6.f0, .int .u32 x.f6.f1, .int .i64 x.f6.f2, .string x.f6.f3, .slice A15 x.f6.f4.length c15, .slice A16 x.f7.length c16, .slice A17 x.f8.length c17], rfl, (k46_mk w x.f2 ), ⟨[.int .i64 x.f3], [.int .i64 x.f4, .int .i64 x.f5.f0, .int .u32 x.f5.f1, .int .i64 x.f5.f2, .string x.f5.f3, .slice A10 x.f5.f4.length c10, .int .i64 x.f6.f0, .int .u32 x.f6.f1, .int .i64 x.f6.f2, .string x.f6.f3, .slice A15 x.f6.f4.length c15, .slice A16 x.f7.length c16, .slice A17 x.f8.length c17], rfl, rfl, ⟨[.int .i64 x.f4], [.int .i64 x.f5.f0, .int .u32 x.f5.f1, .int .i64 x.f5.f2, .string x.f5.f3, .slice A10 x.f5.f4.length c10, .int .i64 x.f6.f0, .int .u32 x.f6.f1, .int .i64 x.f6.f2, .string x.f6.f3, .slice A15 x.f6.f4.length c15, .slice A16 x.f7.length c16, .slice A17 x.f8.length c17], rfl, rfl, ⟨[.int .i64 x.f5.f0, .int .u32 x.f5.f1, .int .i64 x.f5.f2, .string x.f5.f3, .slice A10 x.f5.f4.length c10], [.int .i64 x.f6.f0, .int .u32 x.f6.f1, .int .i64 x.f6.f2, .string x.f6.f3, .slice A15 x.f6.f4.length c15, .slice A16 x.f7.length c16, .slice A17 x.f8.length c17], rfl, (k70_mk w x.f5 l10 g10), ⟨[.int .i64 x.f6.f0, .int .u32 x.f6.f1, .int .i64 x.f6.f2, .string x.f6.f3, .slice A15 x.f6.f4.length c15], [.slice A16 x.f7.length c16, .slice A17 x.f8.length c17], rfl, (k70_mk w x.f6 l15 g15), ⟨[.slice A16 x.f7.length c16], [.slice A17 x.f8.length c17], rfl, ⟨A16, c16, rfl, l16, r16⟩, ⟨A17, c17, rfl, l17, r17⟩⟩⟩⟩⟩⟩⟩⟩⟩⟩
theorem k87_mkM (w : World) (base : Nat) (ok : Nat → Prop) (x : S87) {v10 : Value} (g10 : k70.R 70 w base ok v10 x.f5.f4) {v15 : Value} (g15 : k70.R 70 w base ok v15 x.f6.f4) {v16 : Value} (g16 : k87.R 87 w base ok v16 x.f7) {v17 : Value} (g17 : k87.R 87 w base ok v17 x.f8) : k87.M w base ok x [.int .i64 x.f0, .string x.f1, .bool x.f2.f0, .int .i64 x.f2.f1, .int .i64 x.f3, .int .i64 x.f4, .int .i64 x.f5.f0, .int .u32 x.f5.f1, .int .i64 x.f5.f2, .string x.f5.f3, v10, .int .i64 x.f6.f0, .int .u32 x.f6.f1, .int .i64 x.f6.f2, .string x.f6.f3, v15, v16, v17] := by
  obtain ⟨n16, q16⟩ := Kd.fix_R_back mono87 g16
  obtain ⟨n17, q17⟩ := Kd.fix_R_back mono87 g17
  have r16 := Kd.upto_R_le mono87 sz87 (show n16 ≤ (max n16 n17) by omega) q16
  have r17 := Kd.upto_R_le mono87 sz87 (show n17 ≤ (max n16 n17) by omega) q17
  exact ⟨(max n16 n17) + 1, ⟨[.int .i64 x.f0], [.string x.f1, .bool x.f2.f0, .int .i64 x.f2.f1, .int .i64 x.f3, .int .i64 x.f4, .int .i64 x.f5.f0, .int .u32 x.f5.f1, .int .i64 x.f5.f2, .string x.f5.f3, v10, .int .i64 x.f6.f0, .int .u32 x.f6.f1, .int .i64 x.f6.f2, .string x.f6.f3, v15, v16, v17], rfl, rfl, ⟨[.string x.f1], [.bool x.f2.f0, .int .i64 x.f2.f1, .int .i64 x.f3, .int .i64 x.f4, .int .i64 x.f5.f0, .int .u32 x.f5.f1, .int .i64 x.f5.f2, .string x.f5.f3, v10, .int .i64 x.f6.f0, .int .u32 x.f6.f1, .int .i64 x.f6.f2, .string x.f6.f3, v15, v16, v17], rfl, rfl, ⟨[.bool x.f2.f0, .int .i64 x.f2.f1], [.int .i64 x.f3, .int .i64 x.f4, .int .i64 x.f5.f0, .int .u32 x.f5.f1, .int .i64 x.f5.f2, .string x.f5.f3, v10, .int .i64 x.f6.f0, .int .u32 x.f6.f1, .int .i64 x.f6.f2, .string x.f6.f3, v15, v16, v17], rfl, (k46_mkM w base ok x.f2 ), ⟨[.int .i64 x.f3], [.int .i64 x.f4, .int .i64 x.f5.f0, .int .u32 x.f5.f1, .int .i64 x.f5.f2, .string x.f5.f3, v10, .int .i64 x.f6.f0, .int .u32 x.f6.f1, .int .i64 x.f6.f2, .string x.f6.f3, v15, v16, v17], rfl, rfl, ⟨[.int .i64 x.f4], [.int .i64 x.f5.f0, .int .u32 x.f5.f1, .int .i64 x.f5.f2, .string x.f5.f3, v10, .int .i64 x.f6.f0, .int .u32 x.f6.f1, .int .i64 x.f6.f2, .string x.f6.f3, v15, v16, v17], rfl, rfl, ⟨[.int .i64 x.f5.f0, .int .u32 x.f5.f1, .int .i64 x.f5.f2, .string x.f5.f3, v10], [.int .i64 x.f6.f0, .int .u32 x.f6.f1, .int .i64 x.f6.f2, .string x.f6.f3, v15, v16, v17], rfl, (k70_mkM w base ok x.f5 g10), ⟨[.int .i64 x.f6.f0, .int .u32 x.f6.f1, .int .i64 x.f6.f2, .string x.f6.f3, v15], [v16, v17], rfl, (k70_mkM w base ok x.f6 g15), ⟨[v16], [v17], rfl, ⟨v16, rfl, r16⟩, ⟨v17, rfl, r17⟩⟩⟩⟩⟩⟩⟩⟩⟩⟩
theorem k87_openF {W : World} {ok : Nat → Prop} {x : S87} {cs : List Value} (h : Kd.FK k87 W ok x cs) : ∃ A10 c10 A15 c15 A16 c16 A17 c17, cs = [.int .i64 x.f0, .string x.f1, .bool x.f2.f0, .int .i64 x.f2.f1, .int .i64 x.f3, .int .i64 x.f4, .int .i64 x.f5.f0, .int .u32 x.f5.f1, .int .i64 x.f5.f2, .string x.f5.f3, .slice A10 x.f5.f4.length c10, .int .i64 x.f6.f0, .int .u32 x.f6.f1, .int .i64 x.f6.f2, .string x.f6.f3, .slice A15 x.f6.f4.length c15, .slice A16 x.f7.length c16, .slice A17 x.f8.length c17] ∧ x.f5.f4.length ≤ c10 ∧ Kd.F k70 W ok A10 x.f5.f4.length x.f5.f4 ∧ x.f6.f4.length ≤ c15 ∧ Kd.F k70 W ok A15 x.f6.f4.length x.f6.f4 ∧ x.f7.length ≤ c16 ∧ Kd.F k87 W ok A16 x.f7.length x.f7 ∧ x.f8.length ≤ c17 ∧ Kd.F k87 W ok A17 x.f8.length x.f8 := by
  obtain ⟨A10, c10, A15, c15, A16, c16, A17, c17, rfl, l10, _, l15, _, l16, _, l17, _⟩ := k87_open (Kd.FK_now h)
  exact ⟨A10, c10, A15, c15, A16, c16, A17, c17, rfl, l10, (fun W' hW => by obtain ⟨A10_, c10_, A15_, c15_, A16_, c16_, A17_, c17_, he, l10_, g10_, l15_, g15_, l16_, g16_, l17_, g17_⟩ := k87_open (h W' hW); injection (Option.some.inj (show some (Value.slice A10 x.f5.f4.length c10) = some (Value.slice A10_ x.f5.f4.length c10_) from congrArg (fun l => l[10]?) he)) with ha_ _ _; rw [ha_]; exact g10_), l15, (fun W' hW => by obtain ⟨A10_, c10_, A15_, c15_, A16_, c16_, A17_, c17_, he, l10_, g10_, l15_, g15_, l16_, g16_, l17_, g17_⟩ := k87_open (h W' hW); injection (Option.some.inj (show some (Value.slice A15 x.f6.f4.length c15) = some (Value.slice A15_ x.f6.f4.length c15_) from congrArg (fun l => l[15]?) he)) with ha_ _ _; rw [ha_]; exact g15_), l16, (fun W' hW => by obtain ⟨A10_, c10_, A15_, c15_, A16_, c16_, A17_, c17_, he, l10_, g10_, l15_, g15_, l16_, g16_, l17_, g17_⟩ := k87_open (h W' hW); injection (Option.some.inj (show some (Value.slice A16 x.f7.length c16) = some (Value.slice A16_ x.f7.length c16_) from congrArg (fun l => l[16]?) he)) with ha_ _ _; rw [ha_]; exact g16_), l17, (fun W' hW => by obtain ⟨A10_, c10_, A15_, c15_, A16_, c16_, A17_, c17_, he, l10_, g10_, l15_, g15_, l16_, g16_, l17_, g17_⟩ := k87_open (h W' hW); injection (Option.some.inj (show some (Value.slice A17 x.f8.length c17) = some (Value.slice A17_ x.f8.length c17_) from congrArg (fun l => l[17]?) he)) with ha_ _ _; rw [ha_]; exact g17_)⟩
theorem k87_mkF (W : World) (ok : Nat → Prop) (x : S87) {A10 : Option Addr} {c10 : Nat} (l10 : x.f5.f4.length ≤ c10) (g10 : Kd.F k70 W ok A10 x.f5.f4.length x.f5.f4) {A15 : Option Addr} {c15 : Nat} (l15 : x.f6.f4.length ≤ c15) (g15 : Kd.F k70 W ok A15 x.f6.f4.length x.f6.f4) {A16 : Option Addr} {c16 : Nat} (l16 : x.f7.length ≤ c16) (g16 : Kd.F k87 W ok A16 x.f7.length x.f7) {A17 : Option Addr} {c17 : Nat} (l17 : x.f8.length ≤ c17) (g17 : Kd.F k87 W ok A17 x.f8.length x.f8) : Kd.FK k87 W ok x [.int .i64 x.f0, .string x.f1, .bool x.f2.f0, .int .i64 x.f2.f1, .int .i64 x.f3, .int .i64 x.f4, .int .i64 x.f5.f0, .int .u32 x.f5.f1, .int .i64 x.f5.f2, .string x.f5.f3, .slice A10 x.f5.f4.length c10, .int .i64 x.f6.f0, .int .u32 x.f6.f1, .int .i64 x.f6.f2, .string x.f6.f3, .slice A15 x.f6.f4.length c15, .slice A16 x.f7.length c16, .slice A17 x.f8.length c17] := fun W2 hW => k87_mk W2 x l10 (g10 W2 hW) l15 (g15 W2 hW) l16 (g16 W2 hW) l17 (g17 W2 hW)
def rd_T87 (xs : List S87) (i : Int) : S87 := xs.getD i.toNat z87
theorem at_T87 {w : World} {A : Option Addr} {n : Nat} {xs : List S87} (h : Kd.C k87 w A n xs) (i : Int) (h0 : 0 ≤ i) (h1 : i < n) : ∃ ad A10 c10 A15 c15 A16 c16 A17 c17, A = some ad ∧ w.cell? (ad.add (i.toNat * 18)) = some (.int .i64 (rd_T87 xs i).f0) ∧ w.cell? ⟨(ad.add (i.toNat * 18)).block, (ad.add (i.toNat * 18)).off + 1, none⟩ = some (.string (rd_T87 xs i).f1) ∧ w.cell? ⟨(ad.add (i.toNat * 18)).block, (ad.add (i.toNat * 18)).off + 2, none⟩ = some (.bool (rd_T87 xs i).f2.f0) ∧ w.cell? ⟨(ad.add (i.toNat * 18)).block, (ad.add (i.toNat * 18)).off + 3, none⟩ = some (.int .i64 (rd_T87 xs i).f2.f1) ∧ w.cell? ⟨(ad.add (i.toNat * 18)).block, (ad.add (i.toNat * 18)).off + 4, none⟩ = some (.int .i64 (rd_T87 xs i).f3) ∧ w.cell? ⟨(ad.add (i.toNat * 18)).block, (ad.add (i.toNat * 18)).off + 5, none⟩ = some (.int .i64 (rd_T87 xs i).f4) ∧ w.cell? ⟨(ad.add (i.toNat * 18)).block, (ad.add (i.toNat * 18)).off + 6, none⟩ = some (.int .i64 (rd_T87 xs i).f5.f0) ∧ w.cell? ⟨(ad.add (i.toNat * 18)).block, (ad.add (i.toNat * 18)).off + 7, none⟩ = some (.int .u32 (rd_T87 xs i).f5.f1) ∧ w.cell? ⟨(ad.add (i.toNat * 18)).block, (ad.add (i.toNat * 18)).off + 8, none⟩ = some (.int .i64 (rd_T87 xs i).f5.f2) ∧ w.cell? ⟨(ad.add (i.toNat * 18)).block, (ad.add (i.toNat * 18)).off + 9, none⟩ = some (.string (rd_T87 xs i).f5.f3) ∧ w.cell? ⟨(ad.add (i.toNat * 18)).block, (ad.add (i.toNat * 18)).off + 10, none⟩ = some (.slice A10 (rd_T87 xs i).f5.f4.length c10) ∧ w.cell? ⟨(ad.add (i.toNat * 18)).block, (ad.add (i.toNat * 18)).off + 11, none⟩ = some (.int .i64 (rd_T87 xs i).f6.f0) ∧ w.cell? ⟨(ad.add (i.toNat * 18)).block, (ad.add (i.toNat * 18)).off + 12, none⟩ = some (.int .u32 (rd_T87 xs i).f6.f1) ∧ w.cell? ⟨(ad.add (i.toNat * 18)).block, (ad.add (i.toNat * 18)).off + 13, none⟩ = some (.int .i64 (rd_T87 xs i).f6.f2) ∧ w.cell? ⟨(ad.add (i.toNat * 18)).block, (ad.add (i.toNat * 18)).off + 14, none⟩ = some (.string (rd_T87 xs i).f6.f3) ∧ w.cell? ⟨(ad.add (i.toNat * 18)).block, (ad.add (i.toNat * 18)).off + 15, none⟩ = some (.slice A15 (rd_T87 xs i).f6.f4.length c15) ∧ w.cell? ⟨(ad.add (i.toNat * 18)).block, (ad.add (i.toNat * 18)).off + 16, none⟩ = some (.slice A16 (rd_T87 xs i).f7.length c16) ∧ w.cell? ⟨(ad.add (i.toNat * 18)).block, (ad.add (i.toNat * 18)).off + 17, none⟩ = some (.slice A17 (rd_T87 xs i).f8.length c17) ∧ (rd_T87 xs i).f5.f4.length ≤ c10 ∧ k70.C w A10 (rd_T87 xs i).f5.f4.length (rd_T87 xs i).f5.f4 ∧ (rd_T87 xs i).f6.f4.length ≤ c15 ∧ k70.C w A15 (rd_T87 xs i).f6.f4.length (rd_T87 xs i).f6.f4 ∧ (rd_T87 xs i).f7.length ≤ c16 ∧ k87.C w A16 (rd_T87 xs i).f7.length (rd_T87 xs i).f7 ∧ (rd_T87 xs i).f8.length ≤ c17 ∧ k87.C w A17 (rd_T87 xs i).f8.length (rd_T87 xs i).f8 := by
  obtain ⟨ad, c, e, _, hK, hc0⟩ := Kd.C_get h z87 i h0 h1
  have hc : ∀ j u, c[j]? = some u → w.cell? (ad.add (i.toNat * 18 + j)) = some u := hc0
  obtain ⟨A10, c10, A15, c15, A16, c16, A17, c17, rfl, l10, g10, l15, g15, l16, g16, l17, g17⟩ := k87_open hK
  exact ⟨ad, A10, c10, A15, c15, A16, c16, A17, c17, e, hc 0 _ rfl, by rw [← add_field _ _ 1 (by omega)]; exact hc 1 _ rfl, by rw [← add_field _ _ 2 (by omega)]; exact hc 2 _ rfl, by rw [← add_field _ _ 3 (by omega)]; exact hc 3 _ rfl, by rw [← add_field _ _ 4 (by omega)]; exact hc 4 _ rfl, by rw [← add_field _ _ 5 (by omega)]; exact hc 5 _ rfl, by rw [← add_field _ _ 6 (by omega)]; exact hc 6 _ rfl, by rw [← add_field _ _ 7 (by omega)]; exact hc 7 _ rfl, by rw [← add_field _ _ 8 (by omega)]; exact hc 8 _ rfl, by rw [← add_field _ _ 9 (by omega)]; exact hc 9 _ rfl, by rw [← add_field _ _ 10 (by omega)]; exact hc 10 _ rfl, by rw [← add_field _ _ 11 (by omega)]; exact hc 11 _ rfl, by rw [← add_field _ _ 12 (by omega)]; exact hc 12 _ rfl, by rw [← add_field _ _ 13 (by omega)]; exact hc 13 _ rfl, by rw [← add_field _ _ 14 (by omega)]; exact hc 14 _ rfl, by rw [← add_field _ _ 15 (by omega)]; exact hc 15 _ rfl, by rw [← add_field _ _ 16 (by omega)]; exact hc 16 _ rfl, by rw [← add_field _ _ 17 (by omega)]; exact hc 17 _ rfl, l10, g10, l15, g15, l16, g16, l17, g17⟩

/-! #### struct type 76 -/
structure S76 where
  f0 : ByteArray
  f1 : S46
def z76 : S76 := ⟨(⟨#[]⟩ : ByteArray), z46⟩
def k76 : Kd S76 := Kd.iso (Kd.pair Kd.string k46) (fun x : S76 => (x.f0, x.f1))
theorem k76_heap : Kd.Heap k76 := Kd.heap_iso _ (Kd.heap_pair Kd.heap_string k46_heap)
theorem k76_open {w : World} {x : S76} {cs : List Value} (h : k76.K w x cs) : cs = [.string x.f0, .bool x.f1.f0, .int .i64 x.f1.f1] := by
  obtain ⟨_, _, rfl, rfl, s1⟩ := h
  obtain rfl := k46_open s1
  exact rfl
theorem k76_openM {w : World} {base : Nat} {ok : Nat → Prop} {x : S76} {cs : List Value} (h : k76.M w base ok x cs) : cs = [.string x.f0, .bool x.f1.f0, .int .i64 x.f1.f1] := by
  obtain ⟨_, _, rfl, rfl, s1⟩ := h
  obtain rfl := k46_openM s1
  exact rfl
theorem k76_mk (w : World) (x : S76)  : k76.K w x [.string x.f0, .bool x.f1.f0, .int .i64 x.f1.f1] := ⟨[.string x.f0], [.bool x.f1.f0, .int .i64 x.f1.f1], rfl, rfl, (k46_mk w x.f1 )⟩
theorem k76_mkM (w : World) (base : Nat) (ok : Nat → Prop) (x : S76)  : k76.M w base ok x [.string x.f0, .bool x.f1.f0, .int .i64 x.f1.f1] := ⟨[.string x.f0], [.bool x.f1.f0, .int .i64 x.f1.f1], rfl, rfl, (k46_mkM w base ok x.f1 )⟩
theorem k76_mkF (W : World) (ok : Nat → Prop) (x : S76) : Kd.FK k76 W ok x [.string x.f0, .bool x.f1.f0, .int .i64 x.f1.f1] := fun W2 _ => k76_mk W2 x
def rd_T76 (xs : List S76) (i : Int) : S76 := xs.getD i.toNat z76
theorem at_T76 {w : World} {A : Option Addr} {n : Nat} {xs : List S76} (h : Kd.C k76 w A n xs) (i : Int) (h0 : 0 ≤ i) (h1 : i < n) : ∃ ad , A = some ad ∧ w.cell? (ad.add (i.toNat * 3)) = some (.string (rd_T76 xs i).f0) ∧ w.cell? ⟨(ad.add (i.toNat * 3)).block, (ad.add (i.toNat * 3)).off + 1, none⟩ = some (.bool (rd_T76 xs i).f1.f0) ∧ w.cell? ⟨(ad.add (i.toNat * 3)).block, (ad.add (i.toNat * 3)).off + 2, none⟩ = some (.int .i64 (rd_T76 xs i).f1.f1) := by
  obtain ⟨ad, c, e, _, hK, hc0⟩ := Kd.C_get h z76 i h0 h1
  have hc : ∀ j u, c[j]? = some u → w.cell? (ad.add (i.toNat * 3 + j)) = some u := hc0
  obtain rfl := k76_open hK
  exact ⟨ad, e, hc 0 _ rfl, by rw [← add_field _ _ 1 (by omega)]; exact hc 1 _ rfl, by rw [← add_field _ _ 2 (by omega)]; exact hc 2 _ rfl⟩

def rd_L11 (xs : List (List S76)) (i : Int) : (List S76) := xs.getD i.toNat ([] : List S76)
theorem at_L11 {w : World} {A : Option Addr} {n : Nat} {xs : List (List S76)} (h : Kd.C (Kd.slice 76 k76) w A n xs) (i : Int) (h0 : 0 ≤ i) (h1 : i < n) : ∃ ad A0 c0, A = some ad ∧ w.cell? (ad.add i.toNat) = some (.slice A0 (rd_L11 xs i).length c0) ∧ (rd_L11 xs i).length ≤ c0 ∧ k76.C w A0 (rd_L11 xs i).length (rd_L11 xs i) := by
  obtain ⟨ad, c, e, _, hK, hc0⟩ := Kd.C_get h ([] : List S76) i h0 h1
  have hc : ∀ j u, c[j]? = some u → w.cell? (ad.add (i.toNat * 1 + j)) = some u := hc0
  obtain ⟨A0, c0, rfl, l0, g0⟩ := hK
  exact ⟨ad, A0, c0, e, by have hq := hc 0 _ rfl; rwa [Nat.mul_one, Nat.add_zero] at hq, l0, g0⟩

def rd_L12 (xs : List (List S87)) (i : Int) : (List S87) := xs.getD i.toNat ([] : List S87)
theorem at_L12 {w : World} {A : Option Addr} {n : Nat} {xs : List (List S87)} (h : Kd.C (Kd.slice 87 k87) w A n xs) (i : Int) (h0 : 0 ≤ i) (h1 : i < n) : ∃ ad A0 c0, A = some ad ∧ w.cell? (ad.add i.toNat) = some (.slice A0 (rd_L12 xs i).length c0) ∧ (rd_L12 xs i).length ≤ c0 ∧ k87.C w A0 (rd_L12 xs i).length (rd_L12 xs i) := by
  obtain ⟨ad, c, e, _, hK, hc0⟩ := Kd.C_get h ([] : List S87) i h0 h1
  have hc : ∀ j u, c[j]? = some u → w.cell? (ad.add (i.toNat * 1 + j)) = some u := hc0
  obtain ⟨A0, c0, rfl, l0, g0⟩ := hK
  exact ⟨ad, A0, c0, e, by have hq := hc 0 _ rfl; rwa [Nat.mul_one, Nat.add_zero] at hq, l0, g0⟩

/-! #### struct type 72 -/
structure S72 where
  f0 : ByteArray
  f1 : (List S76)
  f2 : Bool
  f3 : (List S87)
  f4 : S70
def z72 : S72 := ⟨(⟨#[]⟩ : ByteArray), ([] : List S76), false, ([] : List S87), z70⟩
def k72 : Kd S72 := Kd.iso (Kd.pair Kd.string (Kd.pair (Kd.slice 76 k76) (Kd.pair Kd.bool (Kd.pair (Kd.slice 87 k87) k70)))) (fun x : S72 => (x.f0, x.f1, x.f2, x.f3, x.f4))
theorem k72_heap : Kd.Heap k72 := Kd.heap_iso _ (Kd.heap_pair Kd.heap_string (Kd.heap_pair (Kd.heap_slice 76 k76_heap) (Kd.heap_pair Kd.heap_bool (Kd.heap_pair (Kd.heap_slice 87 k87_heap) k70_heap))))
theorem k72_open {w : World} {x : S72} {cs : List Value} (h : k72.K w x cs) : ∃ A1 c1 A3 c3 A8 c8, cs = [.string x.f0, .slice A1 x.f1.length c1, .bool x.f2, .slice A3 x.f3.length c3, .int .i64 x.f4.f0, .int .u32 x.f4.f1, .int .i64 x.f4.f2, .string x.f4.f3, .slice A8 x.f4.f4.length c8] ∧ x.f1.length ≤ c1 ∧ k76.C w A1 x.f1.length x.f1 ∧ x.f3.length ≤ c3 ∧ k87.C w A3 x.f3.length x.f3 ∧ x.f4.f4.length ≤ c8 ∧ k70.C w A8 x.f4.f4.length x.f4.f4 := by
  obtain ⟨_, _, rfl, rfl, ⟨_, _, rfl, ⟨A1, c1, rfl, l1, g1⟩, ⟨_, _, rfl, rfl, ⟨_, _, rfl, ⟨A3, c3, rfl, l3, g3⟩, s4⟩⟩⟩⟩ := h
  obtain ⟨A8, c8, rfl, l8, g8⟩ := k70_open s4
  exact ⟨A1, c1, A3, c3, A8, c8, rfl, l1, g1, l3, g3, l8, g8⟩
theorem k72_openM {w : World} {base : Nat} {ok : Nat → Prop} {x : S72} {cs : List Value} (h : k72.M w base ok x cs) : ∃ v1 v3 v8, cs = [.string x.f0, v1, .bool x.f2, v3, .int .i64 x.f4.f0, .int .u32 x.f4.f1, .int .i64 x.f4.f2, .string x.f4.f3, v8] ∧ k76.R 76 w base ok v1 x.f1 ∧ k87.R 87 w base ok v3 x.f3 ∧ k70.R 70 w base ok v8 x.f4.f4 := by
  obtain ⟨_, _, rfl, rfl, ⟨_, _, rfl, ⟨v1, rfl, g1⟩, ⟨_, _, rfl, rfl, ⟨_, _, rfl, ⟨v3, rfl, g3⟩, s4⟩⟩⟩⟩ := h
  obtain ⟨v8, rfl, g8⟩ := k70_openM s4
  exact ⟨v1, v3, v8, rfl, g1, g3, g8⟩
theorem k72_mk (w : World) (x : S72) {A1 : Option Addr} {c1 : Nat} (l1 : x.f1.length ≤ c1) (g1 : k76.C w A1 x.f1.length x.f1) {A3 : Option Addr} {c3 : Nat} (l3 : x.f3.length ≤ c3) (g3 : k87.C w A3 x.f3.length x.f3) {A8 : Option Addr} {c8 : Nat} (l8 : x.f4.f4.length ≤ c8) (g8 : k70.C w A8 x.f4.f4.length x.f4.f4) : k72.K w x [.string x.f0, .slice A1 x.f1.length c1, .bool x.f2, .slice A3 x.f3.length c3, .int .i64 x.f4.f0, .int .u32 x.f4.f1, .int .i64 x.f4.f2, .string x.f4.f3, .slice A8 x.f4.f4.length c8] := ⟨[.string x.f0], [.slice A1 x.f1.length c1, .bool x.f2, .slice A3 x.f3.length c3, .int .i64 x.f4.f0, .int .u32 x.f4.f1, .int .i64 x.f4.f2, .string x.f4.f3, .slice A8 x.f4.f4.length c8], rfl, rfl, ⟨[.slice A1 x.f1.length c1], [.bool x.f2, .slice A3 x.f3.length c3, .int .i64 x.f4.f0, .int .u32 x.f4.f1, .int .i64 x.f4.f2, .string x.f4.f3, .slice A8 x.f4.f4.length c8], rfl, ⟨A1, c1, rfl, l1, g1⟩, ⟨[.bool x.f2], [.slice A3 x.f3.length c3, .int .i64 x.f4.f0, .int .u32 x.f4.f1, .int .i64 x.f4.f2, .string x.f4.f3, .slice A8 x.f4.f4.length c8], rfl, rfl, ⟨[.slice A3 x.f3.length c3], [.int .i64 x.f4.f0, .int .u32 x.f4.f1, .int .i64 x.f4.f2, .string x.f4.f3, .slice A8 x.f4.f4.length c8], rfl, ⟨A3, c3, rfl, l3, g3⟩, (k70_mk w x.f4 l8 g8)⟩⟩⟩⟩
theorem k72_mkM (w : World) (base : Nat) (ok : Nat → Prop) (x : S72) {v1 : Value} (g1 : k76.R 76 w base ok v1 x.f1) {v3 : Value} (g3 : k87.R 87 w base ok v3 x.f3) {v8 : Value} (g8 : k70.R 70 w base ok v8 x.f4.f4) : k72.M w base ok x [.string x.f0, v1, .bool x.f2, v3, .int .i64 x.f4.f0, .int .u32 x.f4.f1, .int .i64 x.f4.f2, .string x.f4.f3, v8] := ⟨[.string x.f0], [v1, .bool x.f2, v3, .int .i64 x.f4.f0, .int .u32 x.f4.f1, .int .i64 x.f4.f2, .string x.f4.f3, v8], rfl, rfl, ⟨[v1], [.bool x.f2, v3, .int .i64 x.f4.f0, .int .u32 x.f4.f1, .int .i64 x.f4.f2, .string x.f4.f3, v8], rfl, ⟨v1, rfl, g1⟩, ⟨[.bool x.f2], [v3, .int .i64 x.f4.f0, .int .u32 x.f4.f1, .int .i64 x.f4.f2, .string x.f4.f3, v8], rfl, rfl, ⟨[v3], [.int .i64 x.f4.f0, .int .u32 x.f4.f1, .int .i64 x.f4.f2, .string x.f4.f3, v8], rfl, ⟨v3, rfl, g3⟩, (k70_mkM w base ok x.f4 g8)⟩⟩⟩⟩
theorem k72_openF {W : World} {ok : Nat → Prop} {x : S72} {cs : List Value} (h : Kd.FK k72 W ok x cs) : ∃ A1 c1 A3 c3 A8 c8, cs = [.string x.f0, .slice A1 x.f1.length c1, .bool x.f2, .slice A3 x.f3.length c3, .int .i64 x.f4.f0, .int .u32 x.f4.f1, .int .i64 x.f4.f2, .string x.f4.f3, .slice A8 x.f4.f4.length c8] ∧ x.f1.length ≤ c1 ∧ Kd.F k76 W ok A1 x.f1.length x.f1 ∧ x.f3.length ≤ c3 ∧ Kd.F k87 W ok A3 x.f3.length x.f3 ∧ x.f4.f4.length ≤ c8 ∧ Kd.F k70 W ok A8 x.f4.f4.length x.f4.f4 := by
  obtain ⟨A1, c1, A3, c3, A8, c8, rfl, l1, _, l3, _, l8, _⟩ := k72_open (Kd.FK_now h)
  exact ⟨A1, c1, A3, c3, A8, c8, rfl, l1, (fun W' hW => by obtain ⟨A1_, c1_, A3_, c3_, A8_, c8_, he, l1_, g1_, l3_, g3_, l8_, g8_⟩ := k72_open (h W' hW); injection (Option.some.inj (show some (Value.slice A1 x.f1.length c1) = some (Value.slice A1_ x.f1.length c1_) from congrArg (fun l => l[1]?) he)) with ha_ _ _; rw [ha_]; exact g1_), l3, (fun W' hW => by obtain ⟨A1_, c1_, A3_, c3_, A8_, c8_, he, l1_, g1_, l3_, g3_, l8_, g8_⟩ := k72_open (h W' hW); injection (Option.some.inj (show some (Value.slice A3 x.f3.length c3) = some (Value.slice A3_ x.f3.length c3_) from congrArg (fun l => l[3]?) he)) with ha_ _ _; rw [ha_]; exact g3_), l8, (fun W' hW => by obtain ⟨A1_, c1_, A3_, c3_, A8_, c8_, he, l1_, g1_, l3_, g3_, l8_, g8_⟩ := k72_open (h W' hW); injection (Option.some.inj (show some (Value.slice A8 x.f4.f4.length c8) = some (Value.slice A8_ x.f4.f4.length c8_) from congrArg (fun l => l[8]?) he)) with ha_ _ _; rw [ha_]; exact g8_)⟩
theorem k72_mkF (W : World) (ok : Nat → Prop) (x : S72) {A1 : Option Addr} {c1 : Nat} (l1 : x.f1.length ≤ c1) (g1 : Kd.F k76 W ok A1 x.f1.length x.f1) {A3 : Option Addr} {c3 : Nat} (l3 : x.f3.length ≤ c3) (g3 : Kd.F k87 W ok A3 x.f3.length x.f3) {A8 : Option Addr} {c8 : Nat} (l8 : x.f4.f4.length ≤ c8) (g8 : Kd.F k70 W ok A8 x.f4.f4.length x.f4.f4) : Kd.FK k72 W ok x [.string x.f0, .slice A1 x.f1.length c1, .bool x.f2, .slice A3 x.f3.length c3, .int .i64 x.f4.f0, .int .u32 x.f4.f1, .int .i64 x.f4.f2, .string x.f4.f3, .slice A8 x.f4.f4.length c8] := fun W2 hW => k72_mk W2 x l1 (g1 W2 hW) l3 (g3 W2 hW) l8 (g8 W2 hW)
def rd_T72 (xs : List S72) (i : Int) : S72 := xs.getD i.toNat z72
theorem at_T72 {w : World} {A : Option Addr} {n : Nat} {xs : List S72} (h : Kd.C k72 w A n xs) (i : Int) (h0 : 0 ≤ i) (h1 : i < n) : ∃ ad A1 c1 A3 c3 A8 c8, A = some ad ∧ w.cell? (ad.add (i.toNat * 9)) = some (.string (rd_T72 xs i).f0) ∧ w.cell? ⟨(ad.add (i.toNat * 9)).block, (ad.add (i.toNat * 9)).off + 1, none⟩ = some (.slice A1 (rd_T72 xs i).f1.length c1) ∧ w.cell? ⟨(ad.add (i.toNat * 9)).block, (ad.add (i.toNat * 9)).off + 2, none⟩ = some (.bool (rd_T72 xs i).f2) ∧ w.cell? ⟨(ad.add (i.toNat * 9)).block, (ad.add (i.toNat * 9)).off + 3, none⟩ = some (.slice A3 (rd_T72 xs i).f3.length c3) ∧ w.cell? ⟨(ad.add (i.toNat * 9)).block, (ad.add (i.toNat * 9)).off + 4, none⟩ = some (.int .i64 (rd_T72 xs i).f4.f0) ∧ w.cell? ⟨(ad.add (i.toNat * 9)).block, (ad.add (i.toNat * 9)).off + 5, none⟩ = some (.int .u32 (rd_T72 xs i).f4.f1) ∧ w.cell? ⟨(ad.add (i.toNat * 9)).block, (ad.add (i.toNat * 9)).off + 6, none⟩ = some (.int .i64 (rd_T72 xs i).f4.f2) ∧ w.cell? ⟨(ad.add (i.toNat * 9)).block, (ad.add (i.toNat * 9)).off + 7, none⟩ = some (.string (rd_T72 xs i).f4.f3) ∧ w.cell? ⟨(ad.add (i.toNat * 9)).block, (ad.add (i.toNat * 9)).off + 8, none⟩ = some (.slice A8 (rd_T72 xs i).f4.f4.length c8) ∧ (rd_T72 xs i).f1.length ≤ c1 ∧ k76.C w A1 (rd_T72 xs i).f1.length (rd_T72 xs i).f1 ∧ (rd_T72 xs i).f3.length ≤ c3 ∧ k87.C w A3 (rd_T72 xs i).f3.length (rd_T72 xs i).f3 ∧ (rd_T72 xs i).f4.f4.length ≤ c8 ∧ k70.C w A8 (rd_T72 xs i).f4.f4.length (rd_T72 xs i).f4.f4 := by
  obtain ⟨ad, c, e, _, hK, hc0⟩ := Kd.C_get h z72 i h0 h1
  have hc : ∀ j u, c[j]? = some u → w.cell? (ad.add (i.toNat * 9 + j)) = some u := hc0
  obtain ⟨A1, c1, A3, c3, A8, c8, rfl, l1, g1, l3, g3, l8, g8⟩ := k72_open hK
  exact ⟨ad, A1, c1, A3, c3, A8, c8, e, hc 0 _ rfl, by rw [← add_field _ _ 1 (by omega)]; exact hc 1 _ rfl, by rw [← add_field _ _ 2 (by omega)]; exact hc 2 _ rfl, by rw [← add_field _ _ 3 (by omega)]; exact hc 3 _ rfl, by rw [← add_field _ _ 4 (by omega)]; exact hc 4 _ rfl, by rw [← add_field _ _ 5 (by omega)]; exact hc 5 _ rfl, by rw [← add_field _ _ 6 (by omega)]; exact hc 6 _ rfl, by rw [← add_field _ _ 7 (by omega)]; exact hc 7 _ rfl, by rw [← add_field _ _ 8 (by omega)]; exact hc 8 _ rfl, l1, g1, l3, g3, l8, g8⟩

end Go.Proofs.YtappdmioncdefaaDoor.Q
