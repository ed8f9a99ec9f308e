/- What a row's condition gives: the library's variables that the calls read; the frame of a row whose world keeps its shape; the witness. -/
import Derived.Test.YtappdmioncdefaaDoorTie
import Derived.Test.YtappdmioncdefaaDoorCards
import Derived.Test.YtappdmioncdefaaDoorGood
import Derived.ProofKit
import Derived.OpenShut
import Derived.ShutString
import Derived.LaidMore
import Derived.Lay
import Derived.Lib.LaidTab
import Derived.SevenTiedAt
import Derived.HandedShaped
import Derived.Stop.Joined
namespace Go
theorem handed_and_shaped {H : Type} {enc : TypeId × Value → H} {a : Assume} {C : Checked} {os : Os} {f : FuncId} {fn : Func} {s : ChangeSpec} {conds : List PathCond} {apart fresh handsOn again : Bool} {X : World → Array Value → Prop}
    (hX : ∀ (w w' : World) (args : Array Value), w.heap = w'.heap → X w args → X w' args)
    (own : ownKnob C.prog.godebug = none) (started : os.Started) (noInit : C.prog.inits.idxOf? f = none) (hfn : C.prog.funcs[f]? = some fn)
    (witness : ∃ (w : World) (tape : Tape) (i : Input), w.os = os ∧ (w.forCall tape i).Shaped C.prog ∧ i.vars = [] ∧ Input.okWide C.prog (w.forCall tape i) .any w.heap.size f i ∧
      ((s.pre enc C.prog fn conds apart (w.forCall tape i).memory i.args ∧ X (w.forCall tape i).memory i.args) ∧ sizedMet enc C.prog fn (OpenSpec.ofChange s) apart (w.forCall tape i).memory i.args) ∧ a.holds C.prog (lone (Frame.enter C.prog f i.args .normal) [] (w.forCall tape i)))
    (contract : ∀ (W : World) (base : Nat) (args : Array Value) (ds gs : List (DataW H)) (before : List MemPlace),
      (∀ (j : Nat) t v, fn.params[j]? = some t → args[j]? = some v → Value.okWide C.prog W .any base t v) →
      DataW.Whole enc C.prog fn.params.toList s.vars apart W args.toList ds gs before →
      conds.all (PathCond.test C.prog ⟨fn.params.toList, ds, s.plain.varTypes C.prog, gs⟩) = true →
      (DataW.weightsEach C.prog (fn.params.toList ++ s.plain.varTypes C.prog) (ds ++ gs)).all (· ≤ reachBytes) = true → X W args → W.ShapedOpen C.prog →
      a.holds C.prog (lone (Frame.enter C.prog f args .normal) [] W) →
      Calls C.prog f args W fun e W' => ∃ v, e = .returned v ∧ s.post enc C.prog fn apart fresh handsOn again W args v W') :
    ReturnsInHanded a C os f .any (fun w args => (s.pre enc C.prog fn conds apart w args ∧ X w args) ∧ sizedMet enc C.prog fn (OpenSpec.ofChange s) apart w args) (s.post enc C.prog fn apart fresh handsOn again) := by
  refine returnsInHanded_of_calls own started noInit witness ?_
  intro w tape i _ hsh _ hok hpre hholds
  obtain ⟨_, _, _, fn', hfn', _, _, _, _, hval⟩ := hok
  have e : fn' = fn := Option.some.inj (hfn'.symm.trans hfn)
  subst e
  obtain ⟨⟨⟨ds, gs, before, hw, hc⟩, hx⟩, hz⟩ := hpre
  have hw' := DataW.Whole.of_heap (w' := w.forCall tape i) (by rfl) hw
  refine (contract (w.forCall tape i) w.heap.size i.args ds gs before hval hw' hc (hz.weights hw) (hX _ _ _ (by rfl) hx) hsh hholds).mono fun e W' ⟨v, he, hp⟩ => ?_
  subst he
  exact ChangeSpec.post_blind hp
end Go
namespace Go.Proofs.YtappdmioncdefaaDoor
open Go.ChangeShapes Go.WideShapes Go.ChangeAt Go.RowKit
/-- what every row of this seat lists -/
def seatLaid : List (String × DataW Unit) := [("math/bits.deBruijn32tab", Rows.laid_math_bits_deBruijn32tab), ("math/bits.deBruijn64tab", Rows.laid_math_bits_deBruijn64tab), ("internal/strconv.uint64pow10", Rows.laid_internal_strconv_uint64pow10), ("unicode/utf8.acceptRanges", Rows.laid_unicode_utf8_acceptRanges), ("strconv.ErrRange", Rows.laid_strconv_ErrRange), ("strconv.ErrSyntax", Rows.laid_strconv_ErrSyntax), ("unicode/utf8.first", Rows.laid_unicode_utf8_first)]
theorem seatOwn : ownKnob Tryd.prog.godebug = none := by kernel_rfl
theorem seatLaidOut : laidOutB Tryd.prog = true := by kernel_rfl
theorem pow10_is : (Rows.laid_internal_strconv_uint64pow10 : DataW Unit) = Lib.tabData .u64 Lib.pow10Tab := by kernel_rfl
theorem plainLaid : (seatLaid.filter fun x => x.2.handleName?.isSome) = [] := by kernel_rfl
theorem laid_plain {W : World} (h : laidMetH Tryd.prog seatLaid W) : laidMet Tryd.prog seatLaid W := by
  unfold laidMetH at h
  rw [plainLaid] at h
  exact h
theorem laid_plain' {W : World} (h : laidMet Tryd.prog seatLaid W) : laidMetH Tryd.prog seatLaid W := by
  unfold laidMetH
  rw [plainLaid]
  exact h
theorem seatGood {W : World} (h : laidMetH Tryd.prog seatLaid W) (hs : W.ShapedOpen Tryd.prog) : Q.GoodW W := by
  obtain ⟨ps, h1, _⟩ := laid_plain h
  obtain ⟨g1, t1, cs1, f1, p1, q1, _, _, _, _, h2, _⟩ := h1
  obtain ⟨g2, t2, cs2, f2, p2, q2, _, _, _, _, h3, _⟩ := h2
  obtain ⟨g3, t3, cs3, f3, p3, q3, hn3, ht3, hv3, hd3, h4, _⟩ := h3
  obtain ⟨g4, t4, cs4, f4, p4, q4, _, _, _, _, h5, _⟩ := h4
  obtain ⟨g5, t5, cs5, f5, p5, q5, hn5, ht5, hv5, hd5, h6, _⟩ := h5
  obtain ⟨g6, t6, cs6, f6, p6, q6, hn6, ht6, hv6, hd6, h7, _⟩ := h6
  refine ⟨Tryd.laysM146.s1_3 W hs, ?_, ?_, ?_⟩
  · obtain rfl := Option.some.inj ((show Tryd.prog.globalNamed "strconv.ErrSyntax" = some 2 by kernel_rfl).symm.trans hn6)
    obtain rfl := Option.some.inj ((show (Tryd.prog.globals[2]?).map (·.type) = some 54 by kernel_rfl).symm.trans ht6)
    obtain ⟨_, u, v, hc, _⟩ := iface_of_trod Tryd.underlying54 hd6
    have := World.var?_cell (show Tryd.prog.globalNamed "strconv.ErrSyntax" = some 2 by kernel_rfl) hv6 0
    refine ⟨u, v, this.trans ?_⟩
    rw [← Array.getElem?_toList, hc]; rfl
  · obtain rfl := Option.some.inj ((show Tryd.prog.globalNamed "strconv.ErrRange" = some 3 by kernel_rfl).symm.trans hn5)
    obtain rfl := Option.some.inj ((show (Tryd.prog.globals[3]?).map (·.type) = some 54 by kernel_rfl).symm.trans ht5)
    obtain ⟨_, u, v, hc, _⟩ := iface_of_trod Tryd.underlying54 hd5
    have := World.var?_cell (show Tryd.prog.globalNamed "strconv.ErrRange" = some 3 by kernel_rfl) hv5 0
    refine ⟨u, v, this.trans ?_⟩
    rw [← Array.getElem?_toList, hc]; rfl
  · obtain rfl := Option.some.inj ((show Tryd.prog.globalNamed "internal/strconv.uint64pow10" = some 1 by kernel_rfl).symm.trans hn3)
    rw [pow10_is] at hd3
    unfold Lib.TabIs
    obtain rfl := Option.some.inj ((show (Tryd.prog.globals[1]?).map (·.type) = some 118 by kernel_rfl).symm.trans ht3)
    have hcs := Lib.cells_of_tab (t := 118) (e := 83) (n := 20) Tryd.underlying118 Tryd.underlying83 (by kernel_rfl) (by kernel_rfl) hd3
    rw [hv3, ← hcs]
theorem seatMet (os : Os) (args : Array Value) : laidMetH Tryd.prog seatLaid ((World.laidAll Tryd.prog os seatLaid).forCall (fun _ _ => 0) ⟨#[], args, []⟩).memory :=
  laid_plain' (laidMet_laidAll _ (by kernel_rfl) (by kernel_rfl))
end Go.Proofs.YtappdmioncdefaaDoor
