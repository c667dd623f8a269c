/- What a law's row asks of a call, from what the machine says: no conditions. -/
import Derived.Test.YtknogplkinlnfaaGreatDoorShC
import Derived.WalkKit
import Derived.ProofKit
import Derived.OpenShut
import Derived.LaidMore
import Derived.Lay
import Derived.MakeChecks
import Derived.SevenTiedAt
import Derived.Stop.Joined
import Derived.Deep.DeepHandedRow
import Derived.Lib.LaidTab
import Derived.ChangeMaps5
import Derived.ShutString
set_option linter.unusedVariables false
set_option linter.unusedSimpArgs false
set_option linter.unusedSectionVars false
namespace Go.Shadow
open Go Go.ChangeShapes Go.WideShapes Go.ChangeAt Go.RowKit

section
variable {H : Type} {enc : TypeId × Value → H} {P : Program}

/-! ### What a law's row asks of a call -/

theorem post_kept {f : Func} {s : ChangeSpec} {apart fresh handsOn again : Bool} {W W' : World} {args : Array Value} {v : Value} {ds gs : List (DataW H)} {before pa pv : List MemPlace}
    (hW : DataW.Whole enc P f.params.toList s.vars apart W args.toList ds gs before)
    (hres : ∀ (b : Nat) (sp : Nat → Bool) (hd : Bool), DataW.TrodAll enc P W' b sp hd f.resultTypes.toList (v.resultList f.resultTypes.size) (s.fn H (ds ++ gs)).results [])
    (hargs : ∀ sp : Nat → Bool, (∀ p ∈ before, sp p.block = true) → DataW.TrodAll enc P W' 0 sp true f.params.toList args.toList (s.fn H (ds ++ gs)).args pa)
    (hvars : ∀ sp : Nat → Bool, (∀ p ∈ before, sp p.block = true) → DataW.TrodVars enc P W' sp s.vars (s.fn H (ds ++ gs)).vars pv)
    (hps : before = pa ++ pv) (hk : Kept W W')
    (hok : ∀ (j : Nat) (t : TypeId) (r : Value), f.resultTypes[j]? = some t → (v.resultList f.resultTypes.size)[j]? = some r → Value.okWide P W' .any 0 t r) :
    s.post enc P f apart fresh handsOn again W args v W' := by
  have hlt := hW.lt
  have hold : ∀ p ∈ before, (fun b => decide (b < W.heap.size)) p.block = true := fun p hp => by simpa using hlt p hp
  refine ⟨ds, gs, before, [], pa, pv, hW, hres _ _ _, hargs _ hold, hvars _ hold, World.keptBut_mono (fun p hp => ⟨hp, ?_⟩) (hk.kept (· ∈ before)), fun _ => ?_⟩
  · rw [hps, List.mem_append] at hp
    exact Or.inr hp
  · obtain ⟨_, _, _, _, _, hz, hn⟩ := hW
    refine ⟨hok, _, _, ([] ++ pa) ++ pv, ⟨[] ++ pa, pv, trodAll_append (hargs _ (fun _ _ => rfl)) (hres _ _ _), hvars _ (fun _ _ => rfl), rfl, ?_, ?_⟩, ?_⟩
    · intro b off hp
      have hp' : MemPlace.cell b off ∈ before := by rw [hps]; simpa using hp
      rw [hk.frozen (hlt _ hp')]
      exact hz b off hp'
    · intro ha
      have := hn ha
      rw [hps] at this
      simpa using this
    · intro p hp _
      rw [hps]
      simpa using hp

/-! ### Package-level variables -/

theorem laid_mem {W : World} : ∀ {laid : List (String × DataW Unit)} {ps : List MemPlace}, DataW.LaidVars P W laid ps → ∀ x ∈ laid, ∃ g t cs fuel p, P.globalNamed x.1 = some g ∧ (P.globals[g]?).map (·.type) = some t ∧ W.var? P x.1 = some cs ∧
    DataW.trod (fun _ => ()) P W 0 (fun _ => true) false fuel t cs.toList = some (x.2, p)
  | [], _, _, _, hx => by cases hx
  | (n, d) :: r, ps, h, x, hx => by
    obtain ⟨g, t, cs, fuel, p, q, h1, h2, h3, h4, h5, _⟩ := h
    rcases List.mem_cons.1 hx with rfl | hx
    · exact ⟨g, t, cs, fuel, p, h1, h2, h3, h4⟩
    · exact laid_mem h5 x hx

/-- A table of strings: what its cells hold. -/
theorem laid_strs {W : World} {laid : List (String × DataW Unit)} {name : String} {wl : List (List UInt8)} {g n : Nat} {t e : TypeId} (h : laidMet P laid W) (hx : (name, DataW.agg (wl.map fun s => .lit (.string s))) ∈ laid) (hg : P.globalNamed name = some g)
    (hty : (P.globals[g]?).map (·.type) = some t) (ht : P.underlying t = some (.array n e)) (he : P.underlying e = some .string) (hce : P.cellsOf e = 1) :
    ∀ (j : Nat) s, wl[j]? = some s → ∃ b : ByteArray, W.cell? ⟨g, j, none⟩ = some (.string b) ∧ b.data.toList = s := by
  obtain ⟨ps, hl, _⟩ := h
  obtain ⟨g', t', cs, fuel, p, h1, h2, h3, h4⟩ := laid_mem hl _ hx
  obtain rfl := Option.some.inj (hg.symm.trans h1)
  obtain rfl := Option.some.inj (hty.symm.trans h2)
  intro j s hs
  rw [World.var?_cell hg h3 j]
  obtain ⟨xs, m, _, ex, hcl, hl, hel⟩ := DataW.trod_array ht h4
  have e3 : (xs.map (·.1)) = wl.map fun s => .lit (.string s) := (DataW.agg.inj (Prod.mk.inj ex).1).symm
  have hlen : xs.length = wl.length := by simpa using congrArg List.length e3
  have hj : j < wl.length := (List.getElem?_eq_some_iff.1 hs).1
  have hE := hel j (by omega)
  rw [hce, Nat.mul_one, List.getElem?_eq_getElem (by omega)] at hE
  obtain ⟨b, q1, q2, _⟩ := DataW.trod_string he hE
  have e4 : (xs.map (·.1))[j]? = (wl.map fun s => (DataW.lit (.string s) : DataW Unit))[j]? := by rw [e3]
  rw [List.getElem?_map, List.getElem?_map, hs, List.getElem?_eq_getElem (by omega : j < xs.length), q2] at e4
  simp only [Option.map_some, Option.some.injEq, DataW.lit.injEq, Lit.string.injEq] at e4
  refine ⟨b, ?_, e4⟩
  have h0 : ((cs.toList.drop j).take 1)[0]? = some (.string b) := by rw [q1]; rfl
  simpa using h0

theorem glob_strs {C : Ctx} {W : World} {g : Nat} {wl : List (List UInt8)} (hC : ∀ k cs, C.glob k = some cs → k = g ∧ cs = wl.map .str)
    (h : ∀ (j : Nat) s, wl[j]? = some s → ∃ b : ByteArray, W.cell? ⟨g, j, none⟩ = some (.string b) ∧ b.data.toList = s) : GlobOk C (baseRel W) where
  glob := fun k cs hk => by
    obtain ⟨rfl, rfl⟩ := hC k cs hk
    refine .iptr ⟨k, 0, none⟩ _ (fun j => (W.cell? ⟨k, j, none⟩).getD undef) (fun j c hc => ?_) fun j c hc => ?_
    · rw [List.getElem?_map] at hc
      obtain ⟨s, hs, rfl⟩ := Option.map_eq_some_iff.1 hc
      obtain ⟨b, q1, q2⟩ := h j s hs
      refine ⟨rfl, ?_, ?_⟩
      · show W.cell? ⟨k, 0 + j, none⟩ = _
        rw [Nat.zero_add, q1]
        rfl
      · rw [q1]; rfl
    · rw [List.getElem?_map] at hc
      obtain ⟨s, hs, rfl⟩ := Option.map_eq_some_iff.1 hc
      obtain ⟨b, q1, q2⟩ := h j s hs
      simp only [q1, Option.getD_some]
      rw [← q2]
      exact .str b
end

end Go.Shadow
