/-
 Proved: for every list of numbers and every string, the law ConsoleParses returns true (scripts made from the numbers, damaged in one place, the string, and the two joined, are read as the reference reads them, or refused at the same line), the listed variables being as the program lays them. No condition on the arguments.
-/
import Derived.Test.YtdcbnkimjhefkaaGreatDoorU28
import Derived.Test.YtdcbnkimjhefkaaGreatDoorU38
import Derived.Test.YtdcbnkimjhefkaaGreatDoorU40
import Derived.Test.YtdcbnkimjhefkaaGreatDoorU40
import Derived.Test.YtdcbnkimjhefkaaGreatDoorU40
namespace Go.Proofs.YtdcbnkimjhefkaaGreatDoor.consoleParses
open Go.ChangeShapes Go.WideShapes Go.ChangeAt Go.RowKit Go.ChangeMaps

set_option maxRecDepth 100000 in
theorem contract (H : Type) (enc : TypeId × Value → H) (W : World) (base : Nat) (args : Array Value) (ds gs : List (DataW H)) (before : List MemPlace)
  (hval : ∀ (j : Nat) t v, Tryz.f4.params[j]? = some t → args[j]? = some v → Value.okWide Tryz.prog W .any base t v)
  (hW : DataW.Whole enc Tryz.prog Tryz.f4.params.toList Rows.consoleParsesSpec.vars false W args.toList ds gs before) (hL : laidMetH Tryz.prog Rows.consoleParsesRow.laid W) (hS : W.ShapedOpen Tryz.prog) :
  Calls Tryz.prog 4 args W fun e W' => ∃ v, e = .returned v ∧ Rows.consoleParsesSpec.post enc Tryz.prog Tryz.f4 false true false false W args v W' := by
 have hW' := hW
 obtain ⟨p, q, hA0, hV, rfl, hfz, hnd⟩ := hW
 have hA : DataW.TrodAll enc Tryz.prog W 0 (fun _ => true) true Tryz.f4.params.toList args.toList ds p := hA0
 rw [Tryz.params4] at hA hval
 obtain ⟨v0, vs0, d0, ds0, p0, q0, hargs, rfl, rfl, h0, r0⟩ := trodAll_cons hA
 obtain ⟨v1, vs1, d1, ds1, p1, q1, rfl, rfl, rfl, h1, r1⟩ := trodAll_cons r0
 obtain ⟨rfl, rfl, rfl⟩ := trodAll_nil r1
 obtain rfl : args = #[v0, v1] := by cases args; simp_all
 obtain ⟨rfl, rfl⟩ := trodVars_none hV
 have hlt := hW'.lt
 obtain ⟨ns0, hi0⟩ := ints_of (hval 0 44 v0 rfl rfl) h0
 obtain ⟨⟨⟨l1⟩⟩, rfl, rfl, rfl, hs1⟩ := open_string Tryz.underlying9 (hval 1 9 v1 rfl rfl) h1
 clear hA0
 simp only [List.append_nil] at hW' hlt
 have hL' : laidMet Tryz.prog Rows.consoleParsesRow.laid W := hL
 have hR : Reads0 Tryz.prog H0 W := reads_forms (laidMet.tail (laidMet.tail hL'))
 have hp := pow_of (laidMet.tail (laidMet.tail (laidMet.tail (laidMet.tail (laidMet.tail hL')))))
 have hC : Con W := con_of (forms_of (laidMet.tail (laidMet.tail hL'))) hp hS
 have hg := globals_le hS
 have hCP : ConP W := conP_of hC (laidMet.tail (laidMet.tail (laidMet.tail hL'))) (laidMet.tail (laidMet.tail (laidMet.tail (laidMet.tail hL'))))
 refine (parses_any v0 ns0 l1 W hi0 hs1 hCP hg hR).mono fun e W' ⟨he, hg⟩ => ?_
 subst he
 exact ⟨_, rfl, post_of_below (pa := p0) (pv := []) hW' (fun _ _ _ => trodAll_cons_mk (shut_bool Tryz.underlying4 _) trodAll_mk0) (fun _ hsp => by have h := trodAll_cons_mk (WideElems.Trod_stays pf_laidOut (by kernel_rfl) (of_decide_eq_true (by kernel_rfl)) h0 (fun x hx => hg.same (hlt x (by simp [hx]))) (fun x hx => hsp x (by simp [hx]))) (trodAll_cons_mk (shut_string Tryz.underlying9 hs1) trodAll_mk0); simp only [List.append_nil] at h; exact h) (fun _ _ => rfl) (by simp)
  hg (ok_one (by kernel_rfl) rfl (okWide_bool_mk Tryz.underlying4 _))⟩

noncomputable def laidWorld (os : Os) : World :=
 { World.holding Tryz.prog os ⟨#[], #[], []⟩ with heap := Rows.consoleParsesRow.laid.foldl layOne (World.holding Tryz.prog os ⟨#[], #[], []⟩).heap }
theorem laid_met (os : Os) : laidMet Tryz.prog Rows.consoleParsesRow.laid ((laidWorld os).forCall (fun _ _ => 0) ⟨#[], #[.slice none 0 0, .string ⟨#[]⟩], []⟩).memory :=
 laidMet_of_run' 8 (by kernel_rfl) (by kernel_rfl)
theorem reads (os : Os) {H : Type} (enc : TypeId × Value → H) : ∃ places, DataW.whole enc Tryz.prog ((laidWorld os).forCall (fun _ _ => 0) ⟨#[], #[.slice none 0 0, .string ⟨#[]⟩], []⟩).memory Tryz.f4.params.toList Rows.consoleParsesSpec.vars false (#[.slice none 0 0, .string ⟨#[]⟩] : Array Value).toList 8 = some ([.nil, .lit (.string [])], [], places) :=
 ⟨[], by kernel_rfl⟩

set_option maxRecDepth 100000 in
theorem lifted (os : Os) (started : os.Started) (H : Type) (enc : TypeId × Value → H) (F : Stop.Interp) :
  ReturnsInHanded {} Tryz.checked os 4 .any ((OpenSpec.ofChange Rows.consoleParsesSpec).preRow enc Tryz.prog Tryz.f4 Rows.consoleParsesRow.domain false Rows.consoleParsesRow.laid) (((OpenSpec.ofChange Rows.consoleParsesSpec).at F).post enc Tryz.prog Tryz.f4 false true false false) := by
 obtain ⟨places, hx⟩ := reads os enc
 refine returnsInHanded_of_row (C := Tryz.checked) (s := OpenSpec.ofChange Rows.consoleParsesSpec) ownKnobNone started (by kernel_rfl) Tryz.func4
  (witness_row_at (enc := enc) (C := Tryz.checked) false (laidWorld os) #[.slice none 0 0, .string ⟨#[]⟩] rfl (by kernel_rfl) (by kernel_rfl) (by kernel_rfl)
   (OpenSpec.preRow_of_cond 8 hx (by kernel_rfl) (fun k hk => by cases hk) (by kernel_rfl) (laid_met os))) ?_
 intro W base args ds gs before hval hW _ _ _ hL hS _
 exact contract H enc W base args ds gs before hval hW hL hS

theorem said : Rows.ConsoleParsesSaid :=
 OpenClaim.holds_of_cond 4 Tryz.f4 rfl rfl rfl rfl rfl rfl rfl ⟨rfl, rfl, rfl, rfl, rfl⟩ rfl rfl rfl rfl rfl named Tryz.func4 closed
  isInst isWrap
  (fun os started H enc _ F => by rw [OpenClaim.pre_eq_preRow]; exact lifted os started H enc F)

theorem plain (f : FuncId) (fn : Func) (hf : Tryz.pinned.checked.prog.funcNamed "payroll/payrolllaw46.ConsoleParses" = some f) (hfn : Tryz.pinned.checked.prog.funcs[f]? = some fn) :
  true = Tryz.pinned.checked.prog.looks [] ∧ ∀ (j : Nat) t, fn.params[j]? = some t → Tryz.pinned.checked.prog.wantsStandIn t = false := by
 obtain rfl : f = 4 := Option.some.inj (named.symm.trans hf) |>.symm
 obtain rfl : fn = Tryz.f4 := (Option.some.inj (Tryz.func4.symm.trans hfn)).symm
 refine ⟨looksT, fun j t ht => ?_⟩
 rw [Tryz.params4] at ht
 have hm : t = 44 ∨ t = 9 := by simpa using Array.mem_of_getElem? ht
 rcases hm with rfl | rfl
 ·exact (show Tryz.prog.wantsStandIn 44 = false by kernel_rfl)
 ·exact (show Tryz.prog.wantsStandIn 9 = false by kernel_rfl)

theorem card : Rows.ConsoleParsesCardSaid :=
 Claim7.holds_tied_plain_at .later [] _ _ _ _ said (fun _ h => by cases h) wfT (fun _ h => by cases h) consoleParses_row_tie rfl ⟨rfl, rfl⟩ mainsT rfl plain goesT
end Go.Proofs.YtdcbnkimjhefkaaGreatDoor.consoleParses
