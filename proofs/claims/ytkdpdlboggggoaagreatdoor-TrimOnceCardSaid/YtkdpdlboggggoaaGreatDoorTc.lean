/-
  skolemlaw25.TrimOnce: whatever the moves and the number of inner inputs, the law returns true, and leaves its arguments as they were.
  Conditions: the row's own alone: the listed package-level errors read as their initialisers lay them (tied by the given card).
-/
import Derived.Test.YtkdpdlboggggoaaGreatDoorCards
import Derived.Test.YtkdpdlboggggoaaGreatDoorTie
import Derived.Test.YtkdpdlboggggoaaGreatDoorTm
import Derived.Test.YtkdpdlboggggoaaGreatDoorFp
import Derived.Test.YtkdpdlboggggoaaGreatDoorFr
namespace Go.Proofs.YtkdpdlboggggoaaGreatDoor
open Go.ChangeShapes Go.WideShapes Go.ChangeAt Go.RowKit

set_option maxRecDepth 100000 in
theorem TrimOnce_contract (H : Type) (enc : TypeId × Value → H) (W : World) (base : Nat) (args : Array Value) (ds gs : List (DataW H)) (before : List MemPlace)
    (hval : ∀ (j : Nat) t v, Tryz.f3.params[j]? = some t → args[j]? = some v → Value.okWide Tryz.prog W .any base t v)
    (hW : DataW.Whole enc Tryz.prog Tryz.f3.params.toList Rows.trimOnceSpec.vars false W args.toList ds gs before) :
    Calls Tryz.prog 3 args W fun e W' => ∃ v, e = .returned v ∧ Rows.trimOnceSpec.post enc Tryz.prog Tryz.f3 false true false false W args v W' := by
  have hW' := hW
  obtain ⟨p, q, hA0, hV, rfl, hfz, hnd⟩ := hW
  have hA : DataW.TrodAll enc Tryz.prog W 0 (fun _ => true) true Tryz.f3.params.toList args.toList ds p := hA0
  rw [Tryz.params3] at hA hval
  obtain ⟨v0, v1, d0, d1, p0, p1, rfl, rfl, rfl, h0, h1⟩ := trodAll_two hA
  obtain ⟨A0, n, c0, zs, rfl, hn, hn3, hz, _⟩ := ints_arg Tryz.underlying22 Tryz.underlying3 (by kernel_rfl) (hval 0 22 v0 rfl rfl) h0
  obtain ⟨inner, rfl, hi1, hi2⟩ := int_arg Tryz.underlying3 (hval 1 3 v1 rfl rfl) h1
  refine (TrimOnce_any first_true A0 n c0 zs inner W hn hz hi1 hi2 hn3).mono fun e W' ⟨he, hb⟩ => ?_
  subst he
  exact ⟨_, rfl, law_post laid_out (by kernel_rfl) (by kernel_rfl) Tryz.underlying4 rfl hW' (by obtain ⟨rfl, rfl⟩ := trodVars_none hV; rfl) hb⟩

theorem TrimOnce_door (os : Os) (args : Array Value) : laidMetH Tryz.prog Rows.trimOnceRow.laid ((World.doorLaid Tryz.prog 400 os).forCall (fun _ _ => 0) ⟨#[], args, []⟩).memory :=
  laidMetH_of_parts3 (fuel := 8) (laidMet_of_run' 8 (by kernel_rfl) (by kernel_rfl)) (by kernel_rfl) (by kernel_rfl)

theorem TrimOnce_reads (os : Os) {H : Type} (enc : TypeId × Value → H) : ∃ places, DataW.whole enc Tryz.prog ((World.doorLaid Tryz.prog 400 os).forCall (fun _ _ => 0) ⟨#[], #[.slice none 0 0, .int .i64 0], []⟩).memory
    Tryz.f3.params.toList Rows.trimOnceSpec.vars false #[Value.slice none 0 0, .int .i64 0].toList 8 = some ([.nil, .lit (.int .i64 0)], [], places) :=
  ⟨[], by kernel_rfl⟩

set_option maxRecDepth 100000 in
theorem TrimOnce_lifted (os : Os) (started : os.Started) (H : Type) (enc : TypeId × Value → H) (F : Stop.Interp) :
    ReturnsInHanded {} Tryz.checked os 3 .any ((OpenSpec.ofChange Rows.trimOnceSpec).preRow enc Tryz.prog Tryz.f3 Rows.trimOnceRow.domain false Rows.trimOnceRow.laid)
      (((OpenSpec.ofChange Rows.trimOnceSpec).at F).post enc Tryz.prog Tryz.f3 false true false false) := by
  obtain ⟨places, hx⟩ := TrimOnce_reads os enc
  refine returnsInHanded_of_row (C := Tryz.checked) (s := OpenSpec.ofChange Rows.trimOnceSpec) own_knob started (by kernel_rfl) Tryz.func3
    (witness_row_atRef (enc := enc) (C := Tryz.checked) false (World.doorLaid Tryz.prog 400 os) #[.slice none 0 0, .int .i64 0] rfl (by kernel_rfl) (by kernel_rfl) (by kernel_rfl)
      (OpenSpec.preRow_of_cond 8 hx (by kernel_rfl) (fun k hk => by cases hk) (by kernel_rfl) (TrimOnce_door os _))) ?_
  intro W base args ds gs before hval hW _ _ _ _ _ _
  exact TrimOnce_contract H enc W base args ds gs before hval hW

theorem TrimOnce_said : Rows.TrimOnceSaid :=
  OpenClaim.holds_of_cond 3 Tryz.f3 rfl rfl rfl rfl rfl rfl rfl ⟨rfl, rfl, rfl, rfl, rfl⟩ rfl rfl rfl rfl rfl (by kernel_rfl) Tryz.func3 (by kernel_rfl)
    (of_decide_eq_true (by kernel_rfl)) (by unfold Func.isWrapper; first | (rw [if_pos (by decide +kernel)]; kernel_rfl) | (rw [if_neg (by decide +kernel)]; exact ⟨rfl, rfl⟩))
    (fun os started H enc _ F => by rw [OpenClaim.pre_eq_preRow]; exact TrimOnce_lifted os started H enc F)

theorem TrimOnce_plain (f : FuncId) (fn : Func) (hf : Tryz.pinned.checked.prog.funcNamed "skolem/skolemlaw25.TrimOnce" = some f) (hfn : Tryz.pinned.checked.prog.funcs[f]? = some fn) :
    false = Tryz.pinned.checked.prog.looks [] ∧ ∀ (j : Nat) t, fn.params[j]? = some t → Tryz.pinned.checked.prog.wantsStandIn t = false := by
  obtain rfl : f = 3 := Option.some.inj ((show Tryz.prog.funcNamed "skolem/skolemlaw25.TrimOnce" = some 3 by kernel_rfl).symm.trans hf) |>.symm
  obtain rfl : fn = Tryz.f3 := (Option.some.inj (Tryz.func3.symm.trans hfn)).symm
  refine ⟨by kernel_rfl, fun j t ht => ?_⟩
  rw [Tryz.params3] at ht
  have hm := Array.mem_of_getElem? ht
  simp only [List.mem_toArray, List.mem_cons, List.not_mem_nil, or_false] at hm
  rcases hm with rfl | rfl
  · exact (show Tryz.prog.wantsStandIn 22 = false by kernel_rfl)
  · exact (show Tryz.prog.wantsStandIn 3 = false by kernel_rfl)

theorem TrimOnce_holds : Rows.TrimOnceCardSaid :=
  Claim7.holds_tied_plain_at .later [] _ _ _ _ TrimOnce_said (fun _ h => by cases h) (by kernel_rfl) (fun _ h => by cases h) trimOnce_row_tie rfl ⟨rfl, rfl⟩ (by kernel_rfl) rfl TrimOnce_plain (by kernel_rfl)

end Go.Proofs.YtkdpdlboggggoaaGreatDoor
