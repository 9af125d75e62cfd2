/- ModalShapes of the given program answers true Part 10 of 10. -/
import Derived.Test.YteolnmnikcobcaaRows
import Derived.WalkKit
import Derived.ProofKit
import Derived.OpenShut
import Derived.ChangeOld
import Derived.Below
import Derived.Test.YteolnmnikcobcaaMs9
/- Seat 1: the tables, for the rows. -/
namespace Go.Proofs
open Go Go.Sx Go.Vx Go.RowKit
set_option maxRecDepth 100000
theorem marks1 : MarksOK vt1 := by
  have h : ((entries fnT id).all fun p => nodupB ((bodyLps (vt1N p.1) p.2.body).map (·.1))) = true := by kernel_rfl
  intro f fn hf
  have := List.all_eq_true.1 h _ (entries_mem fnT id f fn hf)
  exact this
theorem tabs1 (big : Nat) : TabOK Try.prog (stab vt1 big) := by
  refine tabVOK (prim := vt1P) (fun f hf w => ?_) big
  unfold vt1P at hf
  cases h : Nat.beq f 6 with
  | true => rw [beqT h]; exact callsIn_wide.2 (awake6 w)
  | false =>
    rw [h, Bool.false_or] at hf
    rw [beqT hf]; exact callsIn_wide.2 (awake29 w)
theorem own1 : ownKnob Try.prog.godebug = none := by kernel_rfl
theorem laid1 : laidOutB Try.prog = true := by kernel_rfl
end Go.Proofs
/- ModalShapes: the law over its arguments' shapes. -/
namespace Go.Proofs
open Go Go.Sx Go.Vx
theorem law4 (dvs : List DV) (h : argsOkF [⟨true, [.slice false [.int], .slice false [.int]]⟩, ⟨true, [.int, .int]⟩, ⟨true, [.slice false [.int], .slice false [.int]]⟩] dvs) : CallV vt1 4 dvs (.bool true) := by
  simp only [argsOkF, argOkF, Sh.okL, true_and, Bool.true_eq_false, false_and, or_false] at h
  obtain ⟨d, _, rfl, ⟨cs, rfl, d1, _, rfl, h1, d2, _, rfl, h2, rfl⟩, e, _, rfl, ⟨cs', rfl, d3, _, rfl, h3, d4, _, rfl, h4, rfl⟩, f, _, rfl, ⟨cs'', rfl, d5, _, rfl, h5, d6, _, rfl, h6, rfl⟩, rfl⟩ := h
  obtain ⟨a, rfl, _⟩ := Sh.ok_ints h1
  obtain ⟨b, rfl, _⟩ := Sh.ok_ints h2
  obtain ⟨p, rfl, hp⟩ := Sh.ok_int h3
  obtain ⟨m, rfl, hm⟩ := Sh.ok_int h4
  obtain ⟨l, rfl, _⟩ := Sh.ok_ints h5
  obtain ⟨u, rfl, _⟩ := Sh.ok_ints h6
  exact c4 hm.2
end Go.Proofs
/- ModalShapes: the row. -/
namespace Go.Proofs
open Go.ChangeShapes Go.WideShapes Go.ChangeAt Go.RowKit Go.Sx Go.Vx
open Go.Proofs.Yteolnmnikcobcaa
set_option maxRecDepth 100000
theorem lifted4 (os : Os) (started : os.Started) (H : Type) (enc : TypeId × Value → H) :
    ReturnsInHanded {} Try.checked os 4 .any (Rows.modalShapesSpec.pre6 enc Try.prog Try.f4 Rows.modalShapesRow.domain false) (Rows.modalShapesSpec.post enc Try.prog Try.f4 false true false false) := by
  refine returnsInHanded_of_change (C := Try.checked) own1 started (by kernel_rfl) Try.func4
    (ChangeSpec.witness6 (enc := enc) (C := Try.checked) false ⟨#[], #[.agg #[.slice none 0 0, .slice none 0 0], .agg #[.int .i64 0, .int .i64 0], .agg #[.slice none 0 0, .slice none 0 0]], []⟩ 8 (by kernel_rfl) (by kernel_rfl) (by kernel_rfl) (by kernel_rfl)) ?_
  intro W base args ds gs before hval0 hW hcnd _
  have hval : ∀ (j : Nat) t v, Try.f4.params[j]? = some t → args[j]? = some v → Value.okWide Try.prog W .any base t v := hval0
  have hW' := hW
  obtain ⟨p, q, hA0, hV, rfl, hfz, hnd⟩ := hW
  have hA : DataW.TrodAll enc Try.prog W 0 (fun _ => true) true Try.f4.params.toList args.toList ds p := hA0
  have hlt : ∀ x ∈ p, x.block < W.heap.size := DataW.TrodAll.lt hA
  rw [Try.params4] at hA hval
  refine (law_callsF (vt := vt1) vok1 marks1 tabs1 (ts := [24,34,43]) (by kernel_rfl) law4 (fun j t v h h' => hval j t v (by simpa using h) h') hA).mono fun e W' ⟨he, bel⟩ => ?_
  subst he
  have hargs := trodAll_below laid1 bel (by kernel_rfl) hA hlt
  obtain ⟨v0, vs0, d0, ds0, p0, q0, _, rfl, rfl, h0, r0⟩ := trodAll_cons hA
  obtain ⟨v1, vs1, d1, ds1, p1, q1, _, rfl, rfl, h1, r1⟩ := trodAll_cons r0
  obtain ⟨v2, vs2, d2, ds2, p2, q2, _, rfl, rfl, h2, r2⟩ := trodAll_cons r1
  obtain ⟨rfl, rfl, rfl⟩ := trodAll_nil r2
  obtain ⟨rfl, rfl⟩ := trodVars_none hV
  exact ⟨_, rfl, _, _, _, [], _, [], hW', trodAll_mk1 (shut_bool Try.underlying4 _), hargs, rfl, bel.frame _, fun h => by cases h⟩
theorem over4 : Rows.modalShapesRow.holds Try.pinned (OpenSpec.ofChange Rows.modalShapesSpec) :=
  OpenClaim.holds_of_wide 4 Try.f4 rfl rfl rfl rfl rfl rfl rfl ⟨rfl, rfl, rfl, rfl, rfl⟩ rfl rfl rfl rfl rfl (by kernel_rfl) Try.func4 (by kernel_rfl)
    (of_decide_eq_true (by kernel_rfl)) (by unfold Func.isWrapper; first | (rw [if_pos (by decide +kernel)]; kernel_rfl) | (rw [if_neg (of_decide_eq_false (by kernel_rfl))]; exact ⟨rfl, rfl⟩))
    (fun os started H enc _ => lifted4 os started H enc)
end Go.Proofs
namespace Go.Proofs.Yteolnmnikcobcaa
/-- The statement. -/
theorem modalShapes_said : Rows.ModalShapesSaid := over4
#print axioms modalShapes_said
end Go.Proofs.Yteolnmnikcobcaa
