/- CommandLong answers true for every string and every int, and its arguments read as they did: the card over the given row, the listed variables as the program's text lays them. -/
import Derived.Test.YtknogplkinlnfaaGreatDoorWb
import Derived.Test.YtknogplkinlnfaaGreatDoorShE
import Derived.Test.YtknogplkinlnfaaGreatDoorCards
import Derived.Test.YtknogplkinlnfaaGreatDoorTie
set_option linter.unusedVariables false
set_option linter.unusedSimpArgs false
set_option linter.unusedSectionVars false
namespace Go.Proofs.YtknogplkinlnfaaGreatDoor
open Go Go.Shadow Go.Shadow.T17 Go.Proofs Go.ChangeShapes Go.WideShapes Go.ChangeAt Go.RowKit Go.ChangeMaps
set_option maxRecDepth 100000
set_option maxHeartbeats 1000000
set_option linter.unusedSimpArgs false
set_option linter.unusedVariables false
theorem primIs : ∀ k p, prims k = some p → PrimIs Tryz.prog k p := by
  intro k p h
  unfold prims at h
  split at h
  · rename_i hk
    obtain rfl := Nat.eq_of_beq_eq_true hk
    cases h
    exact ⟨Tryz.f125, Tryz.func125, by kernel_rfl, by kernel_rfl, by kernel_rfl, by kernel_rfl⟩
  · split at h
    · rename_i hk
      obtain rfl := Nat.eq_of_beq_eq_true hk
      cases h
      exact ⟨Tryz.f123, Tryz.func123, by kernel_rfl, by kernel_rfl, by kernel_rfl, by kernel_rfl⟩
    · cases h

theorem globOk {W : World} {laid : List (String × DataW Unit)} (h : laidMet Tryz.prog laid W) (hm : ("pillarbox/command.words", DataW.agg (wl.map fun s => .lit (.string s))) ∈ laid) : GlobOk C (baseRel W) :=
  glob_strs (g := 0) (wl := wl) (fun k cs hk => by
    simp only [C, ctxOf, glob] at hk
    split at hk
    · rename_i hb
      exact ⟨Nat.eq_of_beq_eq_true hb, (Option.some.inj hk).symm⟩
    · cases hk)
    (laid_strs (t := 68) (e := 9) (n := 8) h hm (by kernel_rfl) (by kernel_rfl) (by kernel_rfl) (by kernel_rfl) (by kernel_rfl))

theorem own : ownKnob Tryz.prog.godebug = none := by kernel_rfl
theorem plainLaid : (Rows.commandLongRow.laid.all fun x => x.2.handleName?.isNone) = true := by kernel_rfl

/-- WHAT THE CALL COMES TO: for every argument, in every world that holds the tables. -/
theorem contract (H : Type) (enc : TypeId × Value → H) (W : World) (base : Nat) (args : Array Value) (ds gs : List (DataW H)) (before : List MemPlace)
    (hval : ∀ (j : Nat) t v, Tryz.f5.params[j]? = some t → args[j]? = some v → Value.okWide Tryz.prog W .any base t v)
    (hW : DataW.Whole enc Tryz.prog Tryz.f5.params.toList Rows.commandLongSpec.vars false W args.toList ds gs before) (hL : laidMetH Tryz.prog Rows.commandLongRow.laid W) :
    Calls Tryz.prog 5 args W fun e W' => ∃ v, e = .returned v ∧ Rows.commandLongSpec.post enc Tryz.prog Tryz.f5 false true false false W args v W' := by
  have hW' := hW
  obtain ⟨p, q, hA0, hV, rfl, hfz, hnd⟩ := hW
  have hA : DataW.TrodAll enc Tryz.prog W 0 (fun _ => true) true Tryz.f5.params.toList args.toList ds p := hA0
  rw [Tryz.params5] at hA hval
  obtain ⟨v0, vs0, d0, ds0, p0, q0, hargs, rfl, rfl, h0, r0⟩ := trodAll_cons hA
  obtain ⟨v1, vs1, d1, ds1, p1, q1, rfl, rfl, rfl, h1, r1⟩ := trodAll_cons r0
  obtain ⟨rfl, rfl, rfl⟩ := trodAll_nil r1
  obtain rfl : args = #[v0, v1] := by cases args; simp_all
  obtain ⟨rfl, rfl⟩ := trodVars_none hV
  obtain ⟨s, rfl, rfl, rfl, ws⟩ := open_string Tryz.underlying9 (hval 0 9 v0 rfl rfl) h0
  obtain ⟨n, rfl, rfl, rfl, wn⟩ := open_int Tryz.underlying3 (hval 1 3 v1 rfl rfl) h1
  clear hA0
  simp only [List.append_nil] at hW'
  rw [MakeChecks.laidMetH_plain _ _ _ plainLaid] at hL
  have hg := globOk hL (by simp only [Rows.commandLongRow, Rows.laid_pillarbox_command_words, wl, List.map_cons, List.map_nil]; simp)
  have hvs : Vs (baseRel W) (#[Value.string s, .int .i64 n] : Array Value).toList [.str s.data.toList, .int .i64 n] := .cons (.str s) (.cons (.int .i64 n) (.nil _))
  have walk : Go.Calls Tryz.prog 5 #[.string s, .int .i64 n] W fun e w' => e = .returned (.bool true) ∧ Kept W w' := by
    obtain ⟨st', m, hm⟩ : ∃ st', Go.Shadow.Calls C 5 [.str s.data.toList, .int .i64 n] ⟨[], []⟩ (.bool true) st' := by
      by_cases hc : 300 < s.data.toList.length ∨ n < 0 ∨ 600 < n
      · exact ⟨_, calls_CommandLong_head _ n hc⟩
      · obtain ⟨k, rfl⟩ : ∃ k : Nat, n = k := ⟨n.toNat, by omega⟩
        exact calls_CommandLong_tail _ k (by omega) (by omega)
    exact run_top primIs rfl hm hg hvs
  refine walk.mono fun e W' ⟨he, hk⟩ => ?_
  subst he
  exact ⟨_, rfl, post_kept (pa := []) (pv := []) hW' (fun _ _ _ => trodAll_cons_mk (shut_bool Tryz.underlying4 _) trodAll_mk0) (fun _ _ => trodAll_cons_mk (shut_string Tryz.underlying9 ws) (trodAll_cons_mk (shut_int Tryz.underlying3 wn) trodAll_mk0)) (fun _ _ => rfl) rfl hk
    (ok_one (by kernel_rfl) rfl (okWide_bool_mk Tryz.underlying4 _))⟩

theorem laid_met (os : Os) : laidMetH Tryz.prog Rows.commandLongRow.laid (((World.laidAll Tryz.prog os Rows.commandLongRow.laid).forCall (fun _ _ => 0) ⟨#[], #[.string ⟨#[]⟩, .int .i64 0], []⟩).memory) := by
  rw [MakeChecks.laidMetH_plain _ _ _ plainLaid]
  exact laidMet_laidAll _ (by kernel_rfl) (by kernel_rfl)
theorem reads (os : Os) {H : Type} (enc : TypeId × Value → H) : ∃ places, DataW.whole enc Tryz.prog (((World.laidAll Tryz.prog os Rows.commandLongRow.laid).forCall (fun _ _ => 0) ⟨#[], #[.string ⟨#[]⟩, .int .i64 0], []⟩).memory) Tryz.f5.params.toList Rows.commandLongSpec.vars false #[Value.string ⟨#[]⟩, .int .i64 0].toList 8 = some ([.lit (.string []), .lit (.int .i64 0)], [], places) :=
  ⟨[], by kernel_rfl⟩

theorem lifted (os : Os) (started : os.Started) (H : Type) (enc : TypeId × Value → H) (F : Stop.Interp) :
    ReturnsInHanded {} Tryz.checked os 5 .any ((OpenSpec.ofChange Rows.commandLongSpec).preRow enc Tryz.prog Tryz.f5 Rows.commandLongRow.domain false Rows.commandLongRow.laid) (((OpenSpec.ofChange Rows.commandLongSpec).at F).post enc Tryz.prog Tryz.f5 false true false false) := by
  obtain ⟨places, hx⟩ := reads os enc
  refine returnsInHanded_of_row (C := Tryz.checked) (s := OpenSpec.ofChange Rows.commandLongSpec) own started (by kernel_rfl) Tryz.func5
    (witness_row_at (enc := enc) (C := Tryz.checked) false (World.laidAll Tryz.prog os Rows.commandLongRow.laid) #[.string ⟨#[]⟩, .int .i64 0] (World.laidAll_os _ _ _) (by kernel_rfl) (by kernel_rfl) (by kernel_rfl)
      (OpenSpec.preRow_of_cond 8 hx (by kernel_rfl) (fun k hk => by cases hk) (by kernel_rfl) (laid_met os))) ?_
  intro W base args ds gs before hval hW _ _ _ hL _ _
  exact contract H enc W base args ds gs before hval hW hL

theorem said : Rows.CommandLongSaid :=
  OpenClaim.holds_of_cond 5 Tryz.f5 rfl rfl rfl rfl rfl rfl rfl ⟨rfl, rfl, rfl, rfl, rfl⟩ rfl rfl rfl rfl rfl (by kernel_rfl) Tryz.func5 (by kernel_rfl)
    (of_decide_eq_true (by kernel_rfl)) (by unfold Func.isWrapper; first | (rw [if_pos (by decide +kernel)]; kernel_rfl) | (rw [if_neg (by decide +kernel)]; exact ⟨rfl, rfl⟩))
    (fun os started H enc _ F => by rw [OpenClaim.pre_eq_preRow]; exact lifted os started H enc F)

theorem plain (f : FuncId) (fn : Func) (hf : Tryz.pinned.checked.prog.funcNamed "pillarbox/pillarboxlaw17.CommandLong" = some f) (hfn : Tryz.pinned.checked.prog.funcs[f]? = some fn) :
    false = Tryz.pinned.checked.prog.looks [] ∧ ∀ (j : Nat) t, fn.params[j]? = some t → Tryz.pinned.checked.prog.wantsStandIn t = false := by
  obtain rfl : f = 5 := Option.some.inj ((show Tryz.prog.funcNamed "pillarbox/pillarboxlaw17.CommandLong" = some 5 by kernel_rfl).symm.trans hf) |>.symm
  obtain rfl : fn = Tryz.f5 := (Option.some.inj (Tryz.func5.symm.trans hfn)).symm
  refine ⟨by kernel_rfl, fun j t ht => ?_⟩
  rw [Tryz.params5] at ht
  have hm := Array.mem_of_getElem? ht
  simp only [List.mem_toArray, List.mem_cons, List.not_mem_nil, or_false] at hm
  rcases hm with rfl | rfl
  · exact (show Tryz.prog.wantsStandIn 9 = false by kernel_rfl)
  · exact (show Tryz.prog.wantsStandIn 3 = false by kernel_rfl)

/-- THE CARD. -/
theorem commandLong_holds : Rows.CommandLongCardSaid :=
  Claim7.holds_tied_plain_at .later [] _ _ _ _ said (fun _ h => by cases h) (by kernel_rfl) (fun _ h => by cases h) commandLong_row_tie rfl ⟨rfl, rfl⟩ (by kernel_rfl) rfl plain (by kernel_rfl)
end Go.Proofs.YtknogplkinlnfaaGreatDoor
