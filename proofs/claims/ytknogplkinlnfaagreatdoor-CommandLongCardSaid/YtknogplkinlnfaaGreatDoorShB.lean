/- The machine's operations are sound against the walk's calculus: no conditions. -/
import Derived.Test.YtknogplkinlnfaaGreatDoorShA
import Derived.Laws.IdiomCopy
import Derived.Lib.AppendZerosOnto
set_option linter.unusedVariables false
set_option linter.unusedSimpArgs false
set_option linter.unusedSectionVars false
namespace Go.Shadow
open Go

variable {P : Program} {C : Ctx} {G : Rel} {e : Env} {a : Act} {st st' : St} {w : World} {v : AVal} {o : Oper}

theorem runesFrom_eq (s : ByteArray) : ∀ (n i : Nat) (acc : Array Value), (Conv.runesFrom s n i acc).toList = acc.toList ++ (runesOf n (s.data.toList.drop i)).map fun (r : Nat) => Value.int .i32 r
  | 0, i, acc => by simp [Conv.runesFrom, runesOf]
  | n + 1, i, acc => by
    rw [Conv.runesFrom]
    by_cases hi : i < s.size
    · rw [if_pos hi]
      have hd := decode_eq s i hi
      have hlen : s.data.toList.length = s.size := rfl
      have hne : s.data.toList.drop i = s.data.toList[i] :: s.data.toList.drop (i + 1) := List.drop_eq_getElem_cons (by omega)
      simp only [hd]
      rw [runesFrom_eq s n]
      have : runesOf (n + 1) (s.data.toList.drop i) = (decode1 (s.data.toList.drop i)).1 :: runesOf n ((s.data.toList.drop i).drop (decode1 (s.data.toList.drop i)).2) := by
        rw [hne]; rfl
      rw [this]
      simp
    · rw [if_neg hi]
      have : s.data.toList.drop i = [] := List.drop_eq_nil_of_le (by have : s.data.toList.length = s.size := rfl; omega)
      rw [this]
      simp [runesOf]

theorem so_strRunes (hS : S P G st.h w) (he : EnvRel G e a.tmps) (hg : GlobOk C G) {s d el : TypeId} {x : Operand} {x' : Oprd} (ho : o.op = .convert s d x) (h1 : cOpr x = some x')
    (hs : P.underlying s = some .string) (hd : P.underlying d = some (.slice el)) (hel : P.underlying el = some (.int .i32)) (h : stepOp C e (.strRunes x') st = some (v, st')) : Out P G st.h w ((execOp a.eval o).run P w) st'.h v := by
  simp only [stepOp] at h
  split at h
  · rename_i l hl
    simp only [Option.some.injEq, newRowA] at h
    cases h
    have hX := evO_V he hg h1 hl
    generalize hx : a.eval x = X at hX
    cases hX with
    | str s' =>
      have hr := runesFrom_eq s' s'.size 0 #[]
      simp only [List.nil_append, List.drop_zero] at hr
      have hl' : s'.data.toList.length = s'.size := rfl
      rw [hl']
      generalize hrs : runesOf s'.size s'.data.toList = rs at *
      have hsz : (Conv.runesFrom s' s'.size 0 #[]).size = rs.length := by rw [← Array.length_toList, hr]; simp
      have hge := grownCap_ge w rs.length 0 el
      refine Out.row hS (w' := w.drew.alloc (.cells (Conv.runesFrom s' s'.size 0 #[] ++ Array.replicate (grownCap w rs.length 0 el - rs.length) (.int .i32 0)) el)) (cv := .slice (some ⟨w.heap.size, 0, none⟩) rs.length (grownCap w rs.length 0 el)) _ _
        (Conv.runesFrom s' s'.size 0 #[] ++ Array.replicate (grownCap w rs.length 0 el - rs.length) (.int .i32 0)) el (0, 0) ((Same.drew w).trans (Same.alloc _ _)) (alloc_at w.drew _) (by simp) (by simp only [Array.size_append, Array.size_replicate, hsz]; omega) ?_ ?_ (fun j hj => by simp) ?_ ?_
      · have : (Conv.runesFrom s' s'.size 0 #[] ++ Array.replicate (grownCap w rs.length 0 el - rs.length) (Value.int .i32 0)).toList.take (rs.length * 1) = rs.map fun (r : Nat) => Value.int .i32 r := by
          rw [Nat.mul_one, Array.toList_append, hr]
          simp
        rw [this]
        refine ⟨by simp, fun j v a e e' => ?_⟩
        simp only [List.getElem?_map, Option.map_eq_some_iff] at e e'
        obtain ⟨b, hb, rfl⟩ := e
        obtain ⟨c, hc, rfl⟩ := e'
        rw [hb] at hc; cases hc
        exact .int _ _
      · intro v hv
        simp only [Array.toList_append, hr, Array.toList_replicate, List.mem_append, List.mem_map, List.mem_replicate] at hv
        rcases hv with ⟨b, _, rfl⟩ | ⟨_, rfl⟩ <;> rfl
      · simp only [execOp, ho, Sem.run_bind, hx]
        simp [convert, run_underlying hs, run_underlying hd, run_underlying hel, Conv.stringToRunes, newRow, hsz, Question.forced, grownCap]
      · rw [hS.len.symm]
        exact .mslice G.n _ 0 _ 1 _ false ⟨w.heap.size, _⟩ ⟨w.heap.size, 0, none⟩ _ (Nat.lt_succ_self _) (Rel.add_pl _ _ _) rfl rfl (.inr rfl) hge hge (by simp) (by simp only [Array.size_append, Array.size_replicate, hsz]; omega)
  · cases h

theorem so_mkIface (hS : S P G st.h w) (he : EnvRel G e a.tmps) (hg : GlobOk C G) {t : TypeId} {x : Operand} {x' : Oprd} {d : TypeDesc} (ho : o.op = .makeInterface t x) (h1 : cOpr x = some x') (hd : P.underlying t = some d) (hni : ∀ m, d ≠ .interface m)
    (h : stepOp C e (.mkIface t x') st = some (v, st')) : Out P G st.h w ((execOp a.eval o).run P w) st'.h v := by
  simp only [stepOp, Option.map_eq_some_iff] at h
  obtain ⟨u, hu, h⟩ := h
  cases h
  refine .same hS (cv := .iface t (a.eval x)) ?_ (.iface t _ _ (evO_V he hg h1 hu))
  simp only [execOp, ho, Sem.run_bind, Instr.makeInterface, run_underlying hd, Result.andThen_ok]
  cases d <;> first | rfl | exact absurd rfl (hni _)

theorem so_mkFunc (hS : S P G st.h w) (he : EnvRel G e a.tmps) (hg : GlobOk C G) {fn : Fn} {xs ys : Array Operand} {xs' ys' : List Oprd} (ho : o.op = .makeFunc fn xs ys) (h1 : cOprs xs.toList = some xs') (h2 : cOprs ys.toList = some ys')
    (h : stepOp C e (.mkFunc fn xs' ys') st = some (v, st')) : Out P G st.h w ((execOp a.eval o).run P w) st'.h v := by
  simp only [stepOp] at h
  split at h
  · rename_i as bs has hbs
    cases h
    have hA := evOs_V he hg h1 has
    have hB := evOs_V he hg h2 hbs
    refine .same hS (cv := .func fn (xs.map a.eval) (ys.map a.eval)) (by simp [execOp, ho, Instr.makeFunc]) (.func fn _ _ _ _ (by have := hA.1; simpa using this) (by have := hB.1; simpa using this) (fun j v a e e' => hA.2 j v a ?_ e') (fun j v a e e' => hB.2 j v a ?_ e'))
    · simpa using e
    · simpa using e
  · cases h

theorem so_mkMap (hS : S P G st.h w) {t : TypeId} {r : Option Operand} (ho : o.op = .makeMap t r) (hr : r = none ∨ ∃ k n x y, r = some (.const (.int k n)) ∧ P.underlying t = some (.map x y))
    (h : stepOp C e .mkMap st = some (v, st')) : Out P G st.h w ((execOp a.eval o).run P w) st'.h v := by
  simp only [stepOp, Option.some.injEq] at h
  cases h
  have hB : BlkRel P (G.add 0 ⟨w.heap.size, 0⟩) (w.alloc (.map #[] 0)) G.n (.map []) :=
    ⟨⟨w.heap.size, 0⟩, #[], 0, Rel.add_pl _ _ _, alloc_at w _, rfl, fun j m a e e' => by simp at e⟩
  obtain ⟨h2, h3⟩ := hS.push (.map []) 0 ⟨w.heap.size, 0⟩ rfl (Same.alloc w (.map #[] 0)) (Nat.le_refl _) hB
  refine ⟨_, w.alloc (.map #[] 0), .map (some w.heap.size), .inl ?_, ?_, h2, h3⟩
  · rcases hr with rfl | ⟨k, n, x, y, rfl, ht⟩
    · simp [execOp, ho, Instr.makeMap]
    · simp [execOp, ho, Instr.makeMap, run_underlying ht, Act.eval, asInt, asIntOf]
  · rw [hS.len.symm]
    exact .map G.n ⟨w.heap.size, 0⟩ (Nat.lt_succ_self _) (Rel.add_pl _ _ _)

theorem replicateCells_get : ∀ (n : Nat) (z : List AVal) (j : Nat), j < n * z.length → (replicateCells n z)[j]? = z[j % z.length]?
  | 0, z, j, h => by simp at h
  | n + 1, z, j, h => by
    rw [replicateCells]
    by_cases hj : j < z.length
    · rw [List.getElem?_append_left hj, Nat.mod_eq_of_lt hj]
    · rw [List.getElem?_append_right (by omega), replicateCells_get n z _ (by rw [Nat.add_mul] at h; omega)]
      congr 1
      exact (Nat.mod_eq_sub_mod (by omega)).symm
theorem replicateCells_length : ∀ (n : Nat) (z : List AVal), (replicateCells n z).length = n * z.length
  | 0, z => by simp [replicateCells]
  | n + 1, z => by simp [replicateCells, replicateCells_length n z, Nat.add_mul, Nat.add_comm]

theorem madeCells_V {G : Rel} {zs : Array Value} {z : List AVal} (h : Vs G zs.toList z) (n : Nat) (hz : 0 < z.length) : Vs G (madeCells zs (n * z.length)).toList (replicateCells n z) := by
  have hsz : zs.size = z.length := by simpa using h.1
  refine ⟨by rw [Array.length_toList, size_madeCells, replicateCells_length], fun j v a e e' => ?_⟩
  have hj : j < n * z.length := by rw [← replicateCells_length]; exact (List.getElem?_eq_some_iff.1 e').1
  rw [replicateCells_get n z j hj] at e'
  unfold madeCells at e
  simp only [Array.toList_map, List.getElem?_map, Option.map_eq_some_iff, Array.toList_range] at e
  obtain ⟨i, hi, rfl⟩ := e
  rw [List.getElem?_range hj] at hi; cases hi
  have hlt : j % z.length < zs.size := by rw [hsz]; exact Nat.mod_lt _ hz
  rw [hsz, getElem!_pos zs _ hlt]
  exact h.2 (j % z.length) _ a (by simp [hlt]) e'

theorem madeCells_one {zs : Array Value} (h : ∀ u ∈ zs.toList, u.oneCell' = true) (n : Nat) (hz : 0 < zs.size) : ∀ u ∈ (madeCells zs n).toList, u.oneCell' = true := by
  intro u hu
  unfold madeCells at hu
  simp only [Array.toList_map, List.mem_map] at hu
  obtain ⟨i, _, rfl⟩ := hu
  have hlt : i % zs.size < zs.size := Nat.mod_lt _ hz
  rw [getElem!_pos zs _ hlt]
  exact h _ (by simp)

theorem so_mkSlice (hS : S P G st.h w) (he : EnvRel G e a.tmps) (hg : GlobOk C G) {t el : TypeId} {i : TypeInfo} {z : List AVal} {l c : Operand} {l' c' : Oprd} (ho : o.op = .makeSlice t l c) (ht : P.underlying t = some (.slice el)) (hi : P.info? el = some i) (hz : zeroCellsOf P el = some z)
    (hlen : z.length = i.size) (hsz : 0 < i.size) (h1 : cOpr l = some l') (h2 : cOpr c = some c') (h : stepOp C e (.mkSlice i.bytes i.size z l' c') st = some (v, st')) : Out P G st.h w ((execOp a.eval o).run P w) st'.h v := by
  simp only [stepOp] at h
  split at h
  · rename_i kl ln kc cn hl hc
    split at h
    · rename_i hcond
      obtain ⟨c0, c1, c2, c3⟩ := hcond
      cases h
      obtain ⟨i', zv, hi', hz', hV, hone⟩ := zeroCells_inv hz
      rw [hi] at hi'; cases hi'
      have hL := evO_V he hg h1 hl
      have hC := evO_V he hg h2 hc
      have hzs : zv.cells.size = i.size := by have := (hV G).1; rw [← hlen]; simpa using this
      have hb : (i.bytes : Int) * cn ≤ 281474976710656 := by
        have hcn : cn = (cn.toNat : Int) := by omega
        rw [hcn, ← Int.natCast_mul, Nat.mul_comm]
        simp only [roomB] at c3
        omega
      have hL' : a.eval l = .int kl ln := by generalize a.eval l = X at hL; cases hL; rfl
      have hC' : a.eval c = .int kc cn := by generalize a.eval c = X at hC; cases hC; rfl
      have hrun := run_make (P := P) w t el i zv ht hi hz' kl kc ln cn c0 c1 hb c2
      have hmV := madeCells_V (hV G) cn.toNat (by omega)
      have hmsz : (madeCells zv.cells (cn.toNat * i.size)).size = cn.toNat * i.size := size_madeCells _ _
      refine Out.row hS (w' := w.alloc (.cells (madeCells zv.cells (cn.toNat * i.size)) el)) (cv := .slice (some ⟨w.heap.size, 0, none⟩) ln.toNat cn.toNat) _ _ (madeCells zv.cells (cn.toNat * i.size)) el (0, 0) (Same.alloc w _) (alloc_at w _) (by rw [replicateCells_length, hlen]) (by rw [hmsz]; exact Nat.le_refl _) ?_ (madeCells_one hone _ (by omega)) (fun j hj => by simp) ?_ ?_
      · rw [List.take_of_length_le (by rw [Array.length_toList, hmsz]; exact Nat.le_refl _), ← hlen]
        exact hmV
      · simp only [execOp, ho, Sem.run_bind, hL', hC', hrun]
        rfl
      · rw [hS.len.symm]
        exact .mslice G.n _ 0 _ _ _ true ⟨w.heap.size, _⟩ ⟨w.heap.size, 0, none⟩ _ (Nat.lt_succ_self _) (Rel.add_pl _ _ _) rfl rfl (.inr rfl) (Nat.le_refl _) (by omega) (fun _ => rfl) (by simp only [hmsz]; omega)
    · cases h
  · cases h

theorem so_extract (hS : S P G st.h w) (he : EnvRel G e a.tmps) (hg : GlobOk C G) {x : Operand} {x' : Oprd} {i : Nat} (ho : o.op = .extract x i) (h1 : cOpr x = some x') (h : stepOp C e (.extract x' i) st = some (v, st')) :
    Out P G st.h w ((execOp a.eval o).run P w) st'.h v := by
  simp only [stepOp] at h
  split at h
  · rename_i vs hvs
    simp only [Option.map_eq_some_iff] at h
    obtain ⟨u, hu, h⟩ := h
    cases h
    obtain ⟨A, hA, hV⟩ := (evO_V he hg h1 hvs).tuple_inv
    obtain ⟨cv, hcv, hV1⟩ := hV.get hu
    refine .same hS (cv := cv) ?_ hV1
    have : A[i]? = some cv := by simpa using hcv
    simp [execOp, ho, hA, Instr.extract, this]
  · cases h

end Go.Shadow

namespace Go.Shadow
open Go

variable {P : Program} {C : Ctx} {G : Rel} {e : Env} {a : Act} {st st' : St} {w : World} {v : AVal} {o : Oper}

/-! ### Lengths, parts -/

theorem cOprs_one {xs : List Operand} {x' : Oprd} (h : cOprs xs = some [x']) : ∃ x, xs = [x] ∧ cOpr x = some x' := by
  cases xs with
  | nil => simp [cOprs] at h
  | cons x xs =>
    simp only [cOprs] at h
    split at h
    · rename_i y ys hy hys
      cases h
      cases xs with
      | nil => exact ⟨x, rfl, hy⟩
      | cons x2 xs =>
        simp only [cOprs] at hys
        split at hys <;> cases hys
    · cases h
theorem cOprs_two {xs : List Operand} {x' y' : Oprd} (h : cOprs xs = some [x', y']) : ∃ x y, xs = [x, y] ∧ cOpr x = some x' ∧ cOpr y = some y' := by
  cases xs with
  | nil => simp [cOprs] at h
  | cons x xs =>
    simp only [cOprs] at h
    split at h
    · rename_i z zs hz hzs
      cases h
      obtain ⟨y, rfl, hy⟩ := cOprs_one hzs
      exact ⟨x, y, rfl, hz, hy⟩
    · cases h

theorem run_builtin {c : Call} {b : Builtin} (ho : o.op = .call c) (hc : c.callee = .builtin b) (ρ : Operand → Value) :
    (execOp ρ o).run P w = (builtin b c.argTypes o.type (c.args.map fun | .const _ => true | _ => false) (c.args.map ρ)).run P w := by
  simp only [execOp, ho, resolve, hc, Sem.run_bind, Sem.run_pure, Result.andThen_ok, invoke]
  rfl

theorem args_one {xs : Array Operand} {x : Operand} (h : xs.toList = [x]) : xs = #[x] := by
  obtain ⟨l⟩ := xs; simp at h; subst h; rfl
theorem args_two {xs : Array Operand} {x y : Operand} (h : xs.toList = [x, y]) : xs = #[x, y] := by
  obtain ⟨l⟩ := xs; simp at h; subst h; rfl

theorem getObj_at {r : Nat} {O : Obj} (h : w.heap[r]? = some O) (hn : ∀ A el fr, O ≠ .cells A el fr := by simp) : (getObj r).run P w = .ok O w := by
  simp only [getObj, Sem.run, h]
theorem setObj_at {r : Nat} {O : Obj} (O' : Obj) (h : w.heap[r]? = some O) (hn : ∀ A el fr, O ≠ .cells A el fr := by simp) : (setObj r O').run P w = .ok () { w with heap := w.heap.setIfInBounds r O' } := by
  simp only [setObj, Sem.run, h]

theorem map_at (hS : S P G st.h w) {b : Nat} {es : List (AVal × AVal)} {X : Value} (hX : V G X (.map b)) (hb : st.h[b]? = some (.map es)) :
    ∃ p ents clock, X = .map (some p.cb) ∧ G.pl b 0 = some p ∧ w.heap[p.cb]? = some (.map ents clock) ∧ ents.size = es.length ∧ ∀ (j : Nat) m a, ents[j]? = some m → es[j]? = some a → V G m.key a.1 ∧ V G m.val a.2 := by
  cases hX with
  | map _ p h1 h2 =>
    obtain ⟨q, ents, clock, k1, k2, k3, k4⟩ := hS.blk b _ hb
    rw [h2] at k1; cases k1
    exact ⟨p, ents, clock, rfl, h2, k2, k3, k4⟩

def LenKind (P : Program) (t : TypeId) : Nat → Prop
  | 0 => P.underlying t = some .string
  | 1 => ∃ el, P.underlying t = some (.slice el)
  | 2 => ∃ k el, P.underlying t = some (.map k el)
  | _ => False

theorem so_len (hS : S P G st.h w) (he : EnvRel G e a.tmps) (hg : GlobOk C G) {c : Call} {k : Nat} {x' : Oprd} (ho : o.op = .call c) (hc : c.callee = .builtin .len) (ha : cOprs c.args.toList = some [x']) {t : TypeId}
    (ht : c.argTypes[0]? = some t) (hd : LenKind P t k) (h : stepOp C e (.len k x') st = some (v, st')) : OutS P G w ((execOp a.eval o).run P w) v := by
  obtain ⟨x, hx, hcx⟩ := cOprs_one ha
  rw [run_builtin ho hc, args_one hx]
  simp only [stepOp] at h
  split at h
  · rename_i u hu
    simp only [Option.map_eq_some_iff] at h
    obtain ⟨n, hn, h⟩ := h
    cases h
    have hX := evO_V he hg hcx hu
    suffices hs : (Builtin.len_ c.argTypes o.type #[a.eval x]).run P w = .ok (.int .i64 n) w by
      refine .same hS (cv := .int .i64 n) ?_ (.int _ _)
      simp [builtin, hs]
    unfold lenA at hn
    split at hn
    · cases hn
      generalize a.eval x = X at hX
      cases hX
      have hd : P.underlying t = some .string := hd
      simp [Builtin.len_, ht, run_underlying hd, goInt]
    · cases hn
      obtain ⟨el, hd⟩ := hd
      generalize a.eval x = X at hX
      cases hX
      simp [Builtin.len_, ht, run_underlying hd, goInt]
    · cases hn
      obtain ⟨el, hd⟩ := hd
      generalize a.eval x = X at hX
      cases hX
      simp [Builtin.len_, ht, run_underlying hd, goInt]
    · cases hn
      obtain ⟨el, hd⟩ := hd
      generalize a.eval x = X at hX
      cases hX
      simp [Builtin.len_, ht, run_underlying hd, goInt]
    · cases hn
      obtain ⟨k, el, hd⟩ := hd
      generalize a.eval x = X at hX
      cases hX
      simp [Builtin.len_, ht, run_underlying hd, goInt]
    · split at hn
      · rename_i es hes
        cases hn
        obtain ⟨k, el, hd⟩ := hd
        obtain ⟨p, ents, clock, hX', h2, k2, k3, _⟩ := map_at hS hX hes
        rw [hX']
        simp [Builtin.len_, ht, run_underlying hd, goInt, getObj_at (P := P) k2, k3]
      · cases hn
    · cases hn
  · cases h

theorem so_const (hS : S P G st.h w) {cv : Value} {u : AVal} (hr : (execOp a.eval o).run P w = .ok (.value cv) w) (hv : V G cv u) (h : stepOp C e (.const u) st = some (v, st')) : Out P G st.h w ((execOp a.eval o).run P w) st'.h v := by
  simp only [stepOp] at h
  cases h
  exact .same hS hr hv

theorem so_cap (hS : S P G st.h w) (he : EnvRel G e a.tmps) (hg : GlobOk C G) {c : Call} {x' : Oprd} (ho : o.op = .call c) (hc : c.callee = .builtin .cap) (ha : cOprs c.args.toList = some [x']) {t el : TypeId}
    (ht : c.argTypes[0]? = some t) (hd : P.underlying t = some (.slice el)) (h : stepOp C e (.cap x') st = some (v, st')) : Out P G st.h w ((execOp a.eval o).run P w) st'.h v := by
  obtain ⟨x, hx, hcx⟩ := cOprs_one ha
  rw [run_builtin ho hc, args_one hx]
  simp only [stepOp] at h
  split at h <;> rename_i hu <;> cases h <;> have hX := evO_V he hg hcx hu <;> generalize hxe : a.eval x = X at hX
  · cases hX
    refine .same hS (cv := .int .i64 0) ?_ (.int _ _)
    simp [builtin, Builtin.cap_, ht, run_underlying hd, goInt, hxe]
  · cases hX with
    | islice ad m cap full cells f h1 h2 h3 h4 =>
      refine .same hS (cv := .int .i64 cap) ?_ (by rw [h2 rfl]; exact .int _ _)
      simp [builtin, Builtin.cap_, ht, run_underlying hd, goInt, hxe]
  · cases hX with
    | mslice b ver off len size lb exact p ad cap h1 h2 h3 h4 h5 h6 h7 h8 h9 =>
      refine .same hS (cv := .int .i64 cap) ?_ (by rw [h8 rfl]; exact .int _ _)
      simp [builtin, Builtin.cap_, ht, run_underlying hd, goInt, hxe]

theorem maxA_V {x y : AVal} {r : AVal} {X Y : Value} (hX : V G X x) (hY : V G Y y) (h : maxA x y = some r) : ∃ R, (Builtin.max2 X Y).run P w = .ok R w ∧ V G R r := by
  unfold maxA at h
  split at h
  · split at h
    · rename_i hk; subst hk
      cases h
      cases hX; cases hY
      exact ⟨_, rfl, .int _ _⟩
    · cases h
  · cases h
theorem minA_V {x y : AVal} {r : AVal} {X Y : Value} (hX : V G X x) (hY : V G Y y) (h : minA x y = some r) : ∃ R, (Builtin.min2 X Y).run P w = .ok R w ∧ V G R r := by
  unfold minA at h
  split at h
  · split at h
    · rename_i hk; subst hk
      cases h
      cases hX; cases hY
      exact ⟨_, rfl, .int _ _⟩
    · cases h
  · cases h

theorem foldA_V {f : AVal → AVal → Option AVal} {F : Value → Value → Sem Value} (hf : ∀ {x y r : AVal} {X Y : Value}, V G X x → V G Y y → f x y = some r → ∃ R, (F X Y).run P w = .ok R w ∧ V G R r) :
    ∀ {xs : List AVal} {Xs : List Value} {x : AVal} {X : Value} {r : AVal}, Vs G Xs xs → V G X x → foldA f x xs = some r → ∃ R, (Xs.foldlM F X).run P w = .ok R w ∧ V G R r
  | [], Xs, x, X, r, hs, hx, h => by
    cases Xs with
    | nil => simp [foldA] at h; subst h; exact ⟨X, rfl, hx⟩
    | cons Y Ys => exact absurd hs.1 (by simp)
  | y :: ys, Xs, x, X, r, hs, hx, h => by
    cases Xs with
    | nil => exact absurd hs.1 (by simp)
    | cons Y Ys =>
      simp only [foldA] at h
      split at h
      · rename_i b hb
        obtain ⟨R, hR, hV⟩ := hf hx hs.head hb
        obtain ⟨R', hR', hV'⟩ := foldA_V hf hs.tail hV h
        refine ⟨R', ?_, hV'⟩
        rw [List.foldlM_cons, Sem.run_bind, hR]
        exact hR'
      · cases h

theorem so_max (hS : S P G st.h w) (he : EnvRel G e a.tmps) (hg : GlobOk C G) {c : Call} {xs' : List Oprd} (ho : o.op = .call c) (hc : c.callee = .builtin .max) (ha : cOprs c.args.toList = some xs')
    (h : stepOp C e (.max xs') st = some (v, st')) : Out P G st.h w ((execOp a.eval o).run P w) st'.h v := by
  rw [run_builtin ho hc]
  simp only [stepOp] at h
  split at h
  · rename_i u us hus
    simp only [Option.map_eq_some_iff] at h
    obtain ⟨r, hr, h⟩ := h
    cases h
    have hV := evOs_V he hg ha hus
    generalize hL : c.args.toList.map a.eval = L at hV
    cases L with
    | nil => exact absurd hV.1 (by simp)
    | cons X Xs =>
      obtain ⟨R, hR, hVR⟩ := foldA_V (P := P) (w := w) maxA_V hV.tail hV.head hr
      refine .same hS (cv := R) ?_ hVR
      have : (c.args.map a.eval).toList = X :: Xs := by rw [← hL]; simp
      have hb : (Builtin.max_ c.argTypes o.type (c.args.map a.eval)).run P w = .ok R w := by unfold Builtin.max_; rw [this]; exact hR
      simp [builtin, hb]
  · cases h
theorem so_min (hS : S P G st.h w) (he : EnvRel G e a.tmps) (hg : GlobOk C G) {c : Call} {xs' : List Oprd} (ho : o.op = .call c) (hc : c.callee = .builtin .min) (ha : cOprs c.args.toList = some xs')
    (h : stepOp C e (.min xs') st = some (v, st')) : Out P G st.h w ((execOp a.eval o).run P w) st'.h v := by
  rw [run_builtin ho hc]
  simp only [stepOp] at h
  split at h
  · rename_i u us hus
    simp only [Option.map_eq_some_iff] at h
    obtain ⟨r, hr, h⟩ := h
    cases h
    have hV := evOs_V he hg ha hus
    generalize hL : c.args.toList.map a.eval = L at hV
    cases L with
    | nil => exact absurd hV.1 (by simp)
    | cons X Xs =>
      obtain ⟨R, hR, hVR⟩ := foldA_V (P := P) (w := w) minA_V hV.tail hV.head hr
      refine .same hS (cv := R) ?_ hVR
      have : (c.args.map a.eval).toList = X :: Xs := by rw [← hL]; simp
      have hb : (Builtin.min_ c.argTypes o.type (c.args.map a.eval)).run P w = .ok R w := by unfold Builtin.min_; rw [this]; exact hR
      simp [builtin, hb]
  · cases h

end Go.Shadow

namespace Go.Shadow
open Go

variable {P : Program} {C : Ctx} {G : Rel} {e : Env} {a : Act} {st st' : St} {w : World} {v : AVal} {o : Oper}

/-! ### Slices of slices -/

/-- Optional operands. -/
def VO (G : Rel) (X : Option Value) (x : Option AVal) : Prop := (X = none ∧ x = none) ∨ ∃ V' v, X = some V' ∧ x = some v ∧ V G V' v

theorem evOo_VO (he : EnvRel G e a.tmps) (hg : GlobOk C G) {x : Option Operand} {y : Option Oprd} {v : Option AVal} (hc : cOpt x = some y) (hv : evOo C e y = some v) : VO G (x.map a.eval) v := by
  rcases evOo_V he hg hc hv with ⟨rfl, rfl⟩ | ⟨o, u, rfl, rfl, h⟩
  · exact .inl ⟨rfl, rfl⟩
  · exact .inr ⟨_, u, rfl, rfl, h⟩

theorem bound_V {X : Value} {x : AVal} {y n : Nat} (hV : V G X x) (h : bound x y = some n) (Y : Nat) (hY : y ≤ Y) (code : BoundsCode) : (Instr.sliceBound X Y code).run P w = .ok n w ∧ n ≤ y := by
  unfold bound at h
  split at h
  · rename_i i hi
    split at h
    · rename_i hc
      cases h
      cases hV <;> simp [asI] at hi
      subst hi
      exact ⟨run_sliceBound (P := P) (w := w) _ _ _ _ hc.1 (by omega), by omega⟩
    · cases h
  · cases h

theorem bounds_V {len lb cap : Nat} {lo hi mx : Option AVal} {Lo Hi Mx : Option Value} (isSlice : Bool) (h1 : VO G Lo lo) (h2 : VO G Hi hi) (h3 : VO G Mx mx) (hlb : lb ≤ cap) (hlen : len ≤ cap) (hm : mx.isSome = true → hi.isSome = true) {l h m : Nat}
    (hb : boundsA len lb lo hi mx = some (l, h, m)) :
    ∃ M, (Instr.sliceBounds isSlice len cap Lo Hi Mx).run P w = .ok (l, h, M) w ∧ l ≤ h ∧ h ≤ M ∧ M ≤ cap ∧ m ≤ M ∧ (mx.isSome = true → M = m) ∧ (mx.isSome = false → M = cap ∧ m = lb) ∧ (hi.isSome = true → h ≤ m) ∧ (hi.isSome = false → h = len) := by
  unfold boundsA at hb
  split at hb
  · rename_i m' hm'
    split at hb
    · rename_i h' hh'
      split at hb
      · rename_i l' hl'
        cases hb
        -- max
        have hmax : ∃ M, ((match (generalizing := false) Mx with | some v => Instr.sliceBound v cap (if isSlice then .slice3Acap else .slice3Alen) | none => pure cap : Sem Nat)).run P w = .ok M w ∧ m ≤ M ∧ M ≤ cap ∧ (mx.isSome = true → M = m) ∧ (mx.isSome = false → M = cap ∧ m = lb) := by
          rcases h3 with ⟨rfl, rfl⟩ | ⟨X, x, rfl, rfl, hX⟩
          · simp only [optBound, Option.some.injEq] at hm'
            subst hm'
            exact ⟨cap, rfl, hlb, Nat.le_refl _, by simp, by simp⟩
          · simp only [optBound] at hm'
            obtain ⟨k1, k2⟩ := bound_V (P := P) (w := w) hX hm' cap hlb (if isSlice then .slice3Acap else .slice3Alen)
            exact ⟨m, k1, Nat.le_refl _, by omega, by simp, by simp⟩
        obtain ⟨M, r1, q1, q2, q3, q4⟩ := hmax
        have hhi : ((match (generalizing := false) Hi, Mx with
            | some v, some _ => Instr.sliceBound v M .slice3B
            | some v, none => Instr.sliceBound v M (if isSlice then .sliceAcap else .sliceAlen)
            | none, none => pure len
            | none, some _ => stuck "Slice: max without high" : Sem Nat)).run P w = .ok h w ∧ h ≤ M ∧ (hi.isSome = true → h ≤ m) ∧ (hi.isSome = false → h = len) := by
          rcases h2 with ⟨rfl, rfl⟩ | ⟨X, x, rfl, rfl, hX⟩
          · simp only [optBound, Option.some.injEq] at hh'
            subst hh'
            rcases h3 with ⟨rfl, rfl⟩ | ⟨X, x, rfl, rfl, hX⟩
            · have := q4 rfl
              exact ⟨rfl, by omega, by simp, by simp⟩
            · exact absurd (hm rfl) (by simp)
          · simp only [optBound] at hh'
            rcases h3 with ⟨rfl, rfl⟩ | ⟨Y, y, rfl, rfl, hY⟩
            · obtain ⟨k1, k2⟩ := bound_V (P := P) (w := w) hX hh' M q1 (if isSlice then .sliceAcap else .sliceAlen)
              exact ⟨k1, by omega, fun _ => k2, by simp⟩
            · obtain ⟨k1, k2⟩ := bound_V (P := P) (w := w) hX hh' M q1 .slice3B
              exact ⟨k1, by omega, fun _ => k2, by simp⟩
        obtain ⟨r2, q5, q6, q7⟩ := hhi
        have hlo : ((match (generalizing := false) Lo with | some v => Instr.sliceBound v h (if Mx.isSome then .slice3C else .sliceB) | none => pure 0 : Sem Nat)).run P w = .ok l w ∧ l ≤ h := by
          rcases h1 with ⟨rfl, rfl⟩ | ⟨X, x, rfl, rfl, hX⟩
          · simp only [optBound, Option.some.injEq] at hl'
            subst hl'
            exact ⟨rfl, Nat.zero_le _⟩
          · simp only [optBound] at hl'
            exact bound_V (P := P) (w := w) hX hl' h (Nat.le_refl _) _
        obtain ⟨r3, q8⟩ := hlo
        refine ⟨M, ?_, q8, q5, q2, q1, q3, q4, q6, q7⟩
        unfold Instr.sliceBounds
        clear h1 h2 h3 hm' hh' hl' q1 q2 q3 q4 q5 q6 q7 q8
        cases Mx <;> cases Hi <;> cases Lo <;> simp_all
      · cases hb
    · cases hb
  · cases hb

theorem so_sliceStr (hS : S P G st.h w) (he : EnvRel G e a.tmps) (hg : GlobOk C G) {t : TypeId} {x : Operand} {lo hi : Option Operand} {x' : Oprd} {lo' hi' : Option Oprd} (ho : o.op = .slice t x lo hi none) (h1 : cOpr x = some x') (h2 : cOpt lo = some lo') (h3 : cOpt hi = some hi')
    (ht : P.underlying t = some .string) (h : stepOp C e (.sliceStr x' lo' hi') st = some (v, st')) : Out P G st.h w ((execOp a.eval o).run P w) st'.h v := by
  simp only [stepOp] at h
  split at h
  · rename_i s lv hv hs hl hh
    split at h
    · rename_i l hh' m hb
      cases h
      have hX := evO_V he hg h1 hs
      generalize hx : a.eval x = X at hX
      cases hX with
      | str s' =>
        have hsz : s'.data.toList.length = s'.size := rfl
        rw [hsz] at hb
        obtain ⟨M, r, _⟩ := bounds_V (P := P) (w := w) (cap := s'.size) false (evOo_VO he hg h2 hl) (evOo_VO he hg h3 hh) (.inl ⟨rfl, rfl⟩ : VO G none none) (Nat.le_refl _) (Nat.le_refl _) (by simp) hb
        refine .same hS (cv := .string (s'.extract l hh')) ?_ ?_
        · simp only [execOp, ho, Sem.run_bind, Instr.sliceAt, Instr.slice, hx, run_underlying ht, Result.andThen_ok, Option.map_none, Option.isSome_none, Bool.false_eq_true, if_false, Sem.run_pure, r]
        · have := V.str (G := G) (s'.extract l hh')
          rwa [Lib.extract_data] at this
    · cases h
  · cases h

theorem so_strStr' (hS : S P G st.h w) (he : EnvRel G e a.tmps) (hg : GlobOk C G) {s d : TypeId} {x : Operand} {x' : Oprd} (ho : o.op = .convert s d x) (h1 : cOpr x = some x')
    (hs : P.underlying s = some .string) (hd : P.underlying d = some .string) (h : stepOp C e (.sliceStr x' none none) st = some (v, st')) : Out P G st.h w ((execOp a.eval o).run P w) st'.h v := by
  simp only [stepOp, evOo] at h
  split at h
  · rename_i s' lv hv hs' hl hh
    cases hl; cases hh
    simp only [boundsA, optBound, List.drop_zero, Nat.sub_zero, List.take_length, Option.some.injEq] at h
    cases h
    have hX := evO_V he hg h1 hs'
    generalize hx : a.eval x = X at hX
    cases hX with
    | str s' => exact .same hS (cv := .string _) (by simp [execOp, ho, hx, convert, run_underlying hs, run_underlying hd]) (.str _)
  · cases h

theorem so_slice (hS : S P G st.h w) (he : EnvRel G e a.tmps) (hg : GlobOk C G) {t el : TypeId} {i : TypeInfo} {x : Operand} {lo hi mx : Option Operand} {x' : Oprd} {lo' hi' mx' : Option Oprd} (ho : o.op = .slice t x lo hi mx) (h1 : cOpr x = some x') (h2 : cOpt lo = some lo') (h3 : cOpt hi = some hi') (h4 : cOpt mx = some mx')
    (ht : P.underlying t = some (.slice el)) (hi0 : P.info? el = some i) (h : stepOp C e (.slice i.size x' lo' hi' mx') st = some (v, st')) : Out P G st.h w ((execOp a.eval o).run P w) st'.h v := by
  simp only [stepOp] at h
  split at h
  · rename_i u lv hv mv hu hl hh hm
    split at h
    · cases h
    · rename_i hmh
      simp only [Option.map_eq_some_iff] at h
      obtain ⟨r, hr, h⟩ := h
      cases h
      have hmh' : mv.isSome = true → hv.isSome = true := by
        intro hh; cases hx : hv.isSome with
        | true => rfl
        | false => exact absurd ⟨hh, hx⟩ hmh
      have hX := evO_V he hg h1 hu
      have v2 := evOo_VO (C := C) (a := a) he hg h2 hl
      have v3 := evOo_VO (C := C) (a := a) he hg h3 hh
      have v4 := evOo_VO (C := C) (a := a) he hg h4 hm
      have hrun : ∀ (base : Option Addr) (len cap l h M : Nat), a.eval x = .slice base len cap → (Instr.sliceBounds true len cap (lo.map a.eval) (hi.map a.eval) (mx.map a.eval)).run P w = .ok (l, h, M) w →
          (execOp a.eval o).run P w = .ok (.value (.slice (if M = l then base else base.map (·.add (l * i.size))) (h - l) (M - l))) w := by
        intro base len cap l h M hx hb
        simp only [execOp, ho, Sem.run_bind, Instr.sliceAt, Instr.slice, hx, run_underlying ht, Result.andThen_ok, hb, sizeOf, typeInfo, run_program, hi0, Sem.run_pure]
      unfold sliceA at hr
      split at hr
      · -- nil
        split at hr
        · rename_i tr hb
          cases hr
          obtain ⟨l, h, m⟩ := tr
          generalize hx : a.eval x = X at hX
          cases hX
          obtain ⟨M, r, q1, q2, q3, q4, q5, q6, q7, q8⟩ := bounds_V (P := P) (w := w) (cap := 0) true v2 v3 v4 (Nat.le_refl _) (Nat.le_refl _) hmh' hb
          have e1 : M = 0 := by omega
          have e2 : h = 0 := by omega
          have e3 : l = 0 := by omega
          subst e1 e2 e3
          exact .same hS (hrun none 0 0 0 0 0 hx r) (by simpa using V.nilSlice (G := G))
        · cases hr
      · -- immutable
        rename_i n full cs
        split at hr
        · rename_i l h m hb
          cases hr
          generalize hx : a.eval x = X at hX
          cases hX with
          | islice ad _ cap _ _ f k1 k2 k3 k4 =>
            obtain ⟨M, r, q1, q2, q3, q4, q5, q6, q7, q8⟩ := bounds_V (P := P) (w := w) (cap := cap) true v2 v3 v4 k1 k1 hmh' hb
            refine .same hS (hrun (some ad) n cap l h M hx r) ?_
            have hbase : (if M = l then some ad else Option.map (fun x => x.add (l * i.size)) (some ad)) = some (if M = l then ad else ad.add (l * i.size)) := by split <;> rfl
            rw [hbase]
            have hcell : ∀ (j : Nat) c, ((cs.drop (l * i.size)).take ((h - l) * i.size))[j]? = some c → cs[l * i.size + j]? = some c ∧ M ≠ l := by
              intro j c e
              rw [List.getElem?_take] at e
              split at e
              · rename_i hj
                refine ⟨by simpa using e, fun hml => ?_⟩
                have : h - l = 0 := by omega
                rw [this] at hj; simp at hj
              · cases e
            refine .islice _ (h - l) (M - l) _ _ (fun j => f (l * i.size + j)) (by omega) (fun hf => ?_) (fun j c e => ?_) (fun j c e => k4 _ _ (hcell j c e).1)
            · simp only [Bool.or_eq_true, Bool.and_eq_true, beq_iff_eq, Bool.not_eq_true'] at hf
              rcases hf with ⟨f1, f2⟩ | ⟨⟨f1, f2⟩, f3⟩
              · have := q5 f1; omega
              · have := (q6 f3).1; have := k2 f1; omega
            · obtain ⟨e1, e2⟩ := hcell j c e
              obtain ⟨s1, s2, s3⟩ := k3 _ _ e1
              rw [if_neg e2, add_spot s1]
              exact ⟨rfl, by rw [show ad.off + l * i.size + j = ad.off + (l * i.size + j) by omega]; exact s2, s3⟩
        · cases hr
      · -- a row's
        rename_i b ver off len sz lb exact
        split at hr
        · rename_i hsz
          subst hsz
          split at hr
          · rename_i l h m hb
            cases hr
            generalize hx : a.eval x = X at hX
            cases hX with
            | mslice _ _ _ _ _ _ _ p ad cap k1 k2 k3 k4 k5 k6 k7 k8 k9 =>
              obtain ⟨M, r, q1, q2, q3, q4, q5, q6, q7, q8⟩ := bounds_V (P := P) (w := w) (cap := cap) true v2 v3 v4 k6 k7 hmh' hb
              refine .same hS (hrun (some ad) len cap l h M hx r) ?_
              have hbase : (if M = l then some ad else Option.map (fun x => x.add (l * i.size)) (some ad)) = some (if M = l then ad else ad.add (l * i.size)) := by split <;> rfl
              rw [hbase]
              refine .mslice b ver _ _ _ _ _ p _ _ k1 k2 ?_ ?_ ?_ (by omega) (by omega) (fun hex => ?_) ?_
              · split
                · exact k3
                · rw [add_spot k4]; exact k3
              · split
                · exact k4
                · rw [add_spot k4]
              · by_cases hM : M = l
                · exact .inl (by omega)
                · rw [if_neg hM, add_spot k4]
                  rcases k5 with hz | ho'
                  · exact absurd hM (by omega)
                  · exact .inr (by simp [ho'])
              · simp only [Bool.or_eq_true] at hex
                rcases hex with f1 | f1
                · have := k8 f1
                  cases hms : mv.isSome with
                  | true => have := q5 hms; omega
                  | false => have := q6 hms; omega
                · have := q5 f1; omega
              · have : l * i.size + (M - l) * i.size = M * i.size := by rw [← Nat.add_mul]; congr 1; omega
                have h2 : M * i.size ≤ cap * i.size := Nat.mul_le_mul_right _ q3
                omega
          · cases hr
        · cases hr
      · cases hr
  · cases h

theorem so_sliceArr (hS : S P G st.h w) (he : EnvRel G e a.tmps) (hg : GlobOk C G) {t el : TypeId} {n : Nat} {i : TypeInfo} {x : Operand} {lo hi mx : Option Operand} {x' : Oprd} {lo' hi' mx' : Option Oprd} (ho : o.op = .slice t x lo hi mx) (h1 : cOpr x = some x') (h2 : cOpt lo = some lo') (h3 : cOpt hi = some hi') (h4 : cOpt mx = some mx')
    (ht : P.underlying t = some (.array n el)) (hi0 : P.info? el = some i) (h : stepOp C e (.sliceArr n i.size x' lo' hi' mx') st = some (v, st')) : OutS P G w ((execOp a.eval o).run P w) v := by
  simp only [stepOp] at h
  split at h
  · rename_i b ver off lv hv mv hu hl hh hm
    split at h
    · cases h
    · rename_i hmh
      have hmh' : mv.isSome = true → hv.isSome = true := by
        intro hh; cases hx : hv.isSome with
        | true => rfl
        | false => exact absurd ⟨hh, hx⟩ hmh
      split at h
      · rename_i cs hr
        split at h
        · rename_i hle
          split at h
          · rename_i l h' m hb
            cases h
            have hX := evO_V he hg h1 hu
            have v2 := evOo_VO (C := C) (a := a) he hg h2 hl
            have v3 := evOo_VO (C := C) (a := a) he hg h3 hh
            have v4 := evOo_VO (C := C) (a := a) he hg h4 hm
            generalize hx : a.eval x = X at hX
            cases hX with
            | ptr _ _ _ p k1 k2 =>
              obtain ⟨_, _, arr, el', fr, r1, r2, r3, r4, _⟩ := row_at hS hr k2
              obtain ⟨M, r, q1, q2, q3, q4, q5, q6, q7, q8⟩ := bounds_V (P := P) (w := w) (cap := n) false v2 v3 v4 (Nat.le_refl _) (Nat.le_refl _) hmh' hb
              refine .same hS (cv := .slice (some (if M = l then ⟨p.cb, off, none⟩ else (⟨p.cb, off, none⟩ : Addr).add (l * i.size))) (h' - l) (M - l)) ?_ ?_
              · simp only [execOp, ho, Sem.run_bind, Instr.sliceAt, hx, run_underlying ht, Result.andThen_ok, Instr.sureAddr, Sem.run_pure, r, sizeOf, typeInfo, run_program, hi0]
              · have hMm : M = m := by
                  cases hms : mv.isSome with
                  | true => exact q5 hms
                  | false => have := q6 hms; omega
                subst hMm
                refine .mslice b ver _ _ _ _ _ p _ _ k1 k2 ?_ ?_ ?_ (Nat.le_refl _) (by omega) (fun _ => rfl) ?_
                · split
                  · rfl
                  · rw [add_at]
                · split
                  · rfl
                  · rw [add_at]
                · by_cases hM : M = l
                  · exact .inl (by omega)
                  · rw [if_neg hM, add_at]; exact .inr rfl
                · have : l * i.size + (M - l) * i.size = M * i.size := by rw [← Nat.add_mul]; congr 1; omega
                  have h2 : M * i.size ≤ n * i.size := Nat.mul_le_mul_right _ q3
                  omega
          · cases h
        · cases h
      · cases h
  · cases h

end Go.Shadow

namespace Go.Shadow
open Go

variable {P : Program} {C : Ctx} {G : Rel} {e : Env} {a : Act} {st st' : St} {w : World} {v : AVal} {o : Oper}

/-! ### Fields and elements -/

theorem ptr_add {b ver off : Nat} {p : Place} (h1 : b < G.n) (h2 : G.pl b ver = some p) (k : Nat) : V G (.pointer (some ((⟨p.cb, off, none⟩ : Addr).add k))) (.ptr b ver (off + k)) := by
  rw [add_at]; exact .ptr b ver _ p h1 h2

theorem iptr_add {ad : Addr} {cs : List AVal} (h : V G (.pointer (some ad)) (.iptr cs)) (k : Nat) : V G (.pointer (some (ad.add k))) (.iptr (cs.drop k)) := by
  cases h with
  | iptr _ _ f h1 h2 =>
    refine .iptr _ _ (fun j => f (k + j)) (fun j c e => ?_) (fun j c e => h2 (k + j) c (by simpa using e))
    obtain ⟨s1, s2, s3⟩ := h1 (k + j) c (by simpa using e)
    rw [add_spot s1]
    exact ⟨rfl, by rw [show ad.off + k + j = ad.off + (k + j) by omega]; exact s2, s3⟩

theorem so_fieldAddr (hS : S P G st.h w) (he : EnvRel G e a.tmps) (hg : GlobOk C G) {s : TypeId} {x : Operand} {x' : Oprd} {f : Nat} {fs : Array Field} {fd : Field} {i : TypeInfo} (ho : o.op = .fieldAddr s x f) (h1 : cOpr x = some x')
    (hs : P.underlying s = some (.struct fs)) (hf : fs[f]? = some fd) (hi : P.info? fd.type = some i) (hz : i.size ≠ 0) (h : stepOp C e (.fieldAddr fd.offset x') st = some (v, st')) : Out P G st.h w ((execOp a.eval o).run P w) st'.h v := by
  have hrun : ∀ ad, a.eval x = .pointer (some ad) → (execOp a.eval o).run P w = .ok (.value (.pointer (some (ad.add fd.offset)))) w := by
    intro ad hx
    simp [execOp, ho, Instr.fieldAt, hx, run_underlying hs, hf, Instr.sureAddr, fieldPlace, sizeOf, typeInfo, hi, hz]
  simp only [stepOp] at h
  split at h
  · rename_i hu; cases h
    have hX := evO_V he hg h1 hu
    generalize hx : a.eval x = X at hX
    cases hX with
    | ptr b ver off p k1 k2 => exact .same hS (hrun _ hx) (ptr_add k1 k2 _)
  · rename_i hu; cases h
    have hX := evO_V he hg h1 hu
    generalize hx : a.eval x = X at hX
    have hX' := hX
    cases hX with
    | iptr ad cells f k1 k2 => exact .same hS (hrun _ hx) (iptr_add hX' _)
  · cases h

theorem aggOf_inv {t : TypeId} {n : Option Nat} (h : aggOf P t = some n) : ∃ d i, P.underlying t = some d ∧ P.info? t = some i ∧
    ((n = some i.size ∧ (aggD d) = true) ∨ (n = none ∧ (aggD d) = false)) := by
  unfold aggOf at h
  split at h
  · rename_i fs i hu hi
    cases h
    exact ⟨_, i, hu, hi, .inl ⟨rfl, rfl⟩⟩
  · rename_i x y i hu hi
    cases h
    exact ⟨_, i, hu, hi, .inl ⟨rfl, rfl⟩⟩
  · rename_i d i hns hna hu hi
    cases h
    refine ⟨_, _, hu, hi, .inr ⟨rfl, ?_⟩⟩
    cases d with
    | struct fs => exact absurd rfl (hns fs)
    | array n el => exact absurd rfl (hna n el)
    | _ => rfl
  · cases h

def partA (cs : List AVal) (off : Nat) : Option Nat → Option AVal
  | none => cs[off]?
  | some n => some (.agg ((cs.drop off).take n))

theorem part_V {t : TypeId} {n : Option Nat} (hn : aggOf P t = some n) {A : Array Value} {as : List AVal} (hV : Vs G A.toList as) (h1 : ∀ u ∈ A.toList, u.oneCell' = true) (off : Nat) {r : AVal}
    (hr : partA as off n = some r) : ∃ R, (part t A off).run P w = .ok R w ∧ V G R r := by
  obtain ⟨d, i, hu, hi, hc⟩ := aggOf_inv hn
  rcases hc with ⟨rfl, hd⟩ | ⟨rfl, hd⟩
  · cases hr
    have hcell : P.cellsOf t = i.size := by simp [Program.cellsOf, hi]
    refine ⟨_, run_part_agg hu hd A off i.size hcell, ?_⟩
    have : (A.extract off (off + i.size)).toList = (A.toList.drop off).take i.size := by
      simp [Array.toList_extract]
    refine Vs.agg (this ▸ (hV.drop off).take i.size) fun u hu' => h1 u ?_
    rw [this] at hu'
    exact List.mem_of_mem_drop (List.mem_of_mem_take hu')
  · obtain ⟨R, hR, hVR⟩ := hV.get hr
    exact ⟨R, run_part_one hu hd A off R (by simpa using hR), hVR⟩

theorem so_field (hS : S P G st.h w) (he : EnvRel G e a.tmps) (hg : GlobOk C G) {s : TypeId} {x : Operand} {x' : Oprd} {f : Nat} {fs : Array Field} {fd : Field} {n : Option Nat} (ho : o.op = .field s x f) (h1 : cOpr x = some x')
    (hs : P.underlying s = some (.struct fs)) (hf : fs[f]? = some fd) (hn : aggOf P fd.type = some n) (h : stepOp C e (.field fd.offset n x') st = some (v, st')) : Out P G st.h w ((execOp a.eval o).run P w) st'.h v := by
  simp only [stepOp] at h
  split at h
  · rename_i cs hu
    obtain ⟨A, hA, hV, hone⟩ := (evO_V he hg h1 hu).agg_inv
    have key : ∀ r, partA cs fd.offset n = some r → Out P G st.h w ((execOp a.eval o).run P w) st.h r := by
      intro r hr
      obtain ⟨R, hR, hVR⟩ := part_V (P := P) (w := w) hn hV hone fd.offset hr
      refine .same hS (cv := R) ?_ hVR
      simp [execOp, ho, Instr.field, hA, run_underlying hs, hf, asAgg, hR]
    split at h
    · simp only [Option.map_eq_some_iff] at h
      obtain ⟨r, hr, h⟩ := h
      cases h
      exact key _ hr
    · split at h
      · cases h; exact key _ rfl
      · cases h
  · cases h

theorem asInt_V {X : Value} {k : IntKind} {i : Int} (h : V G X (.int k i)) : X = .int k i := by cases h; rfl

theorem so_idxAddr (hS : S P G st.h w) (he : EnvRel G e a.tmps) (hg : GlobOk C G) {t el : TypeId} {x ix : Operand} {x' ix' : Oprd} {i : TypeInfo} (ho : o.op = .indexAddr t x ix) (h1 : cOpr x = some x') (h2 : cOpr ix = some ix')
    (ht : P.underlying t = some (.slice el)) (hi : P.info? el = some i) (h : stepOp C e (.idxAddr i.size x' ix') st = some (v, st')) : Out P G st.h w ((execOp a.eval o).run P w) st'.h v := by
  simp only [stepOp] at h
  split at h
  · rename_i u k n hu hn
    have hI := asInt_V (evO_V he hg h2 hn)
    have hX := evO_V he hg h1 hu
    have hrun : ∀ ad len cap, a.eval x = .slice (some ad) len cap → 0 ≤ n → n < len → (execOp a.eval o).run P w = .ok (.value (.pointer (some (ad.add (n.toNat * i.size))))) w := by
      intro ad len cap hx c0 c1
      simp [execOp, ho, Instr.indexAt, hx, hI, asIntOf, run_underlying ht, c0, c1, sizeOf, typeInfo, hi]
    split at h
    · rename_i len full cs
      split at h
      · rename_i hc
        cases h
        generalize hx : a.eval x = X at hX
        cases hX with
        | islice ad _ cap _ _ f k1 k2 k3 k4 => exact .same hS (hrun _ _ _ hx hc.1 hc.2) (iptr_add (.iptr ad _ f k3 k4) _)
      · cases h
    · rename_i b ver off len sz lb ex
      split at h
      · rename_i hc
        obtain ⟨rfl, hc⟩ := hc
        cases h
        generalize hx : a.eval x = X at hX
        cases hX with
        | mslice _ _ _ _ _ _ _ p ad cap k1 k2 k3 k4 k5 k6 k7 k8 k9 =>
          refine .same hS (hrun _ _ _ hx hc.1 hc.2) ?_
          have had : ad = ⟨p.cb, off, none⟩ := by
            rcases k5 with hz | ho'
            · omega
            · obtain ⟨q1, q2, q3⟩ := ad; simp_all
          rw [had]
          exact ptr_add k1 k2 _
      · cases h
    · cases h
  · cases h

theorem so_idxAddrArr (hS : S P G st.h w) (he : EnvRel G e a.tmps) (hg : GlobOk C G) {t el : TypeId} {n : Nat} {x ix : Operand} {x' ix' : Oprd} {i : TypeInfo} (ho : o.op = .indexAddr t x ix) (h1 : cOpr x = some x') (h2 : cOpr ix = some ix')
    (ht : P.underlying t = some (.array n el)) (hi : P.info? el = some i) (h : stepOp C e (.idxAddrArr n i.size x' ix') st = some (v, st')) : Out P G st.h w ((execOp a.eval o).run P w) st'.h v := by
  have hrun : ∀ ad k m, a.eval x = .pointer (some ad) → a.eval ix = .int k m → 0 ≤ m → m < n → (execOp a.eval o).run P w = .ok (.value (.pointer (some (ad.add (m.toNat * i.size))))) w := by
    intro ad k m hx hI c0 c1
    simp [execOp, ho, Instr.indexAt, hx, hI, asIntOf, run_underlying ht, c0, c1, sizeOf, typeInfo, hi, Instr.sureAddr]
  simp only [stepOp] at h
  split at h
  · rename_i hu hm
    split at h
    · rename_i hc
      cases h
      have hI := asInt_V (evO_V he hg h2 hm)
      have hX := evO_V he hg h1 hu
      generalize hx : a.eval x = X at hX
      cases hX with
      | ptr b ver off p k1 k2 => exact .same hS (hrun _ _ _ hx hI hc.1 hc.2) (ptr_add k1 k2 _)
    · cases h
  · rename_i hu hm
    split at h
    · rename_i hc
      cases h
      have hI := asInt_V (evO_V he hg h2 hm)
      have hX := evO_V he hg h1 hu
      generalize hx : a.eval x = X at hX
      have hX' := hX
      cases hX with
      | iptr ad cells f k1 k2 => exact .same hS (hrun _ _ _ hx hI hc.1 hc.2) (iptr_add hX' _)
    · cases h
  · cases h

theorem so_idxStr (hS : S P G st.h w) (he : EnvRel G e a.tmps) (hg : GlobOk C G) {t : TypeId} {x ix : Operand} {x' ix' : Oprd} (ho : o.op = .index t x ix) (h1 : cOpr x = some x') (h2 : cOpr ix = some ix')
    (ht : P.underlying t = some .string) (h : stepOp C e (.idxStr x' ix') st = some (v, st')) : Out P G st.h w ((execOp a.eval o).run P w) st'.h v := by
  simp only [stepOp] at h
  split at h
  · rename_i s k m hu hm
    split at h
    · rename_i c0
      simp only [Option.map_eq_some_iff] at h
      obtain ⟨b, hb, h⟩ := h
      cases h
      have hI := asInt_V (evO_V he hg h2 hm)
      have hX := evO_V he hg h1 hu
      generalize hx : a.eval x = X at hX
      cases hX with
      | str s' =>
        refine .same hS (cv := .int .u8 b.toNat) ?_ (.int _ _)
        have : s'[m.toNat]? = some b := by rw [str_get]; exact hb
        simp only [execOp, ho, Sem.run_bind, Instr.index, hx, hI, asIntOf, Sem.run_pure, Result.andThen_ok, run_underlying ht, c0, if_true, this]
    · cases h
  · cases h

theorem so_idxArr (hS : S P G st.h w) (he : EnvRel G e a.tmps) (hg : GlobOk C G) {t el : TypeId} {n : Nat} {i : TypeInfo} {ag : Option Nat} {x ix : Operand} {x' ix' : Oprd} (ho : o.op = .index t x ix) (h1 : cOpr x = some x') (h2 : cOpr ix = some ix')
    (ht : P.underlying t = some (.array n el)) (hi : P.info? el = some i) (hag : aggOf P el = some ag) (h : stepOp C e (.idxArr n i.size ag.isSome x' ix') st = some (v, st')) : Out P G st.h w ((execOp a.eval o).run P w) st'.h v := by
  simp only [stepOp] at h
  split at h
  · rename_i cs k m hu hm
    split at h
    · rename_i hc
      have hI := asInt_V (evO_V he hg h2 hm)
      obtain ⟨A, hA, hV, hone⟩ := (evO_V he hg h1 hu).agg_inv
      have key : ∀ r, partA cs (m.toNat * i.size) ag = some r → Out P G st.h w ((execOp a.eval o).run P w) st.h r := by
        intro r hr
        obtain ⟨R, hR, hVR⟩ := part_V (P := P) (w := w) hag hV hone (m.toNat * i.size) hr
        refine .same hS (cv := R) ?_ hVR
        simp [execOp, ho, Instr.index, hA, hI, asIntOf, run_underlying ht, hc.1, hc.2, sizeOf, typeInfo, hi, hR]
      obtain ⟨d, i', hu', hi', hcc⟩ := aggOf_inv hag
      rw [hi] at hi'; cases hi'
      rcases hcc with ⟨rfl, _⟩ | ⟨rfl, _⟩
      · simp only [Option.isSome_some, if_true] at h
        cases h
        exact key _ rfl
      · simp only [Option.isSome_none, Bool.false_eq_true, if_false, Option.map_eq_some_iff] at h
        obtain ⟨r, hr, h⟩ := h
        cases h
        exact key _ hr
    · cases h
  · cases h

end Go.Shadow

namespace Go.Shadow
open Go

variable {P : Program} {C : Ctx} {G : Rel} {e : Env} {a : Act} {st st' : St} {w : World} {v : AVal} {o : Oper}

/-! ### Reading and writing -/

theorem run_load_at {ad : Addr} {V : Value} (h : w.cell? ad = some V) : (load ad).run P w = .ok V w := by
  rw [run_load, h]

theorem loadVar_V {t : TypeId} {n : Option Nat} (hn : aggOf P t = some n) {ad : Addr} {cs : List AVal} (hR : Reads G w ad cs) {r : AVal}
    (hr : match n with | none => cs[0]? = some r | some k => cs.length = k ∧ r = .agg cs) : ∃ R, (loadVar t ad).run P w = .ok R w ∧ V G R r := by
  obtain ⟨d, i, hu, hi, hc⟩ := aggOf_inv hn
  rcases hc with ⟨rfl, hd⟩ | ⟨rfl, hd⟩
  · obtain ⟨hl, rfl⟩ := hr
    obtain ⟨A, hA, hV, h1⟩ := run_reads (P := P) hR
    rw [hl] at hA
    refine ⟨.agg A, ?_, hV.agg h1⟩
    simp [loadVar, run_isAgg hu, hd, sizeOf, typeInfo, hi, hA]
  · obtain ⟨f, h1, h2⟩ := hR
    have hr : cs[0]? = some r := hr
    have hl : 0 < cs.length := (List.getElem?_eq_some_iff.1 hr).1
    have := (h1 0 hl).1
    rw [Addr.add_zero'] at this
    refine ⟨f 0, ?_, h2 0 r hr⟩
    simp [loadVar, run_isAgg hu, hd, this]

theorem loadA_V (hS : S P G st.h w) {t : TypeId} {n : Option Nat} (hn : aggOf P t = some n) {X : Value} {p r : AVal} (hX : V G X p) (hr : loadA st.h n p = some r) :
    ∃ ad R, X = .pointer (some ad) ∧ (loadVar t ad).run P w = .ok R w ∧ V G R r := by
  unfold loadA at hr
  split at hr
  · rename_i b ver off
    split at hr
    · rename_i cs hrow
      cases hX with
      | ptr _ _ _ p k1 k2 =>
        have hrd := reads_row hS (off := off) hrow k2
        obtain ⟨_, _, arr, el', fr, r1, r2, r3, r4, _⟩ := row_at hS hrow k2
        split at hr
        · obtain ⟨R, q1, q2⟩ := loadVar_V (P := P) (r := r) hn hrd (by simpa using hr)
          exact ⟨_, R, rfl, q1, q2⟩
        · rename_i k
          split at hr
          · cases hr
            obtain ⟨R, q1, q2⟩ := loadVar_V (P := P) (r := .agg ((cs.drop off).take k)) hn (hrd.take k) ⟨by simp; omega, rfl⟩
            exact ⟨_, R, rfl, q1, q2⟩
          · cases hr
    · cases hr
  · rename_i cs
    obtain ⟨ad, hX', hrd⟩ := reads_iptr hS hX
    split at hr
    · obtain ⟨R, q1, q2⟩ := loadVar_V (P := P) (r := r) hn hrd (by simpa using hr)
      exact ⟨_, R, hX', q1, q2⟩
    · rename_i k
      split at hr
      · cases hr
        obtain ⟨R, q1, q2⟩ := loadVar_V (P := P) (r := .agg (cs.take k)) hn (hrd.take k) ⟨by simp; omega, rfl⟩
        exact ⟨_, R, hX', q1, q2⟩
      · cases hr
  · cases hr

theorem so_load (hS : S P G st.h w) (he : EnvRel G e a.tmps) (hg : GlobOk C G) {t : TypeId} {n : Option Nat} {x : Operand} {x' : Oprd} (ho : o.op = .load t x) (hn : aggOf P t = some n) (h1 : cOpr x = some x') (h : stepOp C e (.load n x') st = some (v, st')) :
    OutS P G w ((execOp a.eval o).run P w) v := by
  simp only [stepOp] at h
  split at h
  · rename_i p hp
    simp only [Option.map_eq_some_iff] at h
    obtain ⟨r, hr, h⟩ := h
    cases h
    obtain ⟨ad, R, hX, q1, q2⟩ := loadA_V hS hn (evO_V he hg h1 hp) hr
    exact .same hS (cv := R) (by simp [execOp, ho, Instr.loadAt, Instr.sureAddr, hX, q1]) q2
  · cases h

theorem so_store (hS : S P G st.h w) (he : EnvRel G e a.tmps) (hg : GlobOk C G) {t : TypeId} {i : TypeInfo} {x y : Operand} {x' y' : Oprd} (ho : o.op = .store t x y) (hi : P.info? t = some i) (h1 : cOpr x = some x') (h2 : cOpr y = some y') (h : stepOp C e (.store i.size x' y') st = some (v, st')) :
    Out P G st.h w ((execOp a.eval o).run P w) st'.h v := by
  simp only [stepOp] at h
  split at h
  · rename_i b ver off u hx hy
    split at h
    · rename_i cs hrow
      split at h
      · rename_i hc
        obtain ⟨c1, c2, c3⟩ := hc
        cases h
        have hX := evO_V he hg h1 hx
        have hY := evO_V he hg h2 hy
        generalize hxe : a.eval x = X at hX
        cases hX with
        | ptr _ _ _ p k1 k2 =>
          have hcells := hY.cells (storable_unk c1)
          have hone := hY.storable c1
          obtain ⟨q1, q2⟩ := hS.write hrow k2 hcells hone off (by omega)
          have hsz : (a.eval y).cells.size = i.size := by have := hcells.1; rw [← c2]; simpa using this
          refine ⟨G, _, undef, .inr ⟨?_, rfl⟩, V_undef G, q1, q2⟩
          have hrc := row_cells hS hrow k2
          obtain ⟨_, _, arr, el', fr, r1, r2, r3, r4, _⟩ := row_at hS hrow k2
          have hst := run_storeCells_cells (P := P) p.cb off (a.eval y).cells.toList 0 w (fun j hj => (hrc (off + 0 + j) (by simp at hj; omega)).1) (fun j hj => (hrc (off + 0 + j) (by simp at hj; omega)).2) hone
          simp only [execOp, ho, Instr.storeAt, hxe, Instr.sureAddr, storeVar, Sem.run_bind, Sem.run_pure, Result.andThen_ok, sizeOf, typeInfo, run_program, hi, hsz, ne_eq, not_true_eq_false, if_false, hst, Nat.add_zero]
      · cases h
    · cases h
  · cases h

/-! ### Walks over strings -/

/-- A block that is no row is turned, in place. -/
theorem S.putObj {P : Program} {G : Rel} {h : List ABlk} {w : World} (hS : S P G h w) {b : Nat} {o o' : ABlk} {p : Place} {O : Obj} (hb : h[b]? = some o) (hv : o.ver = some 0) (hp : G.pl b 0 = some p) (hv' : o'.ver = some 0)
    (hrel : BlkRel P G { w with heap := w.heap.setIfInBounds p.cb O } b o') : S P G (h.set b o') { w with heap := w.heap.setIfInBounds p.cb O } ∧ Ext G h w G (h.set b o') { w with heap := w.heap.setIfInBounds p.cb O } := by
  have hpl := placeAt_mk hb hv hp
  have hbl := (List.getElem?_eq_some_iff.1 hb).1
  refine hS.update b o' (.refl _) rfl (by simp [hS.len]) (by simp [hbl]) (fun i o' hi ho' => by rwa [List.getElem?_set_ne (by omega)] at ho') (fun i hi _ => by rw [List.getElem?_set_ne (by omega)]) (by rw [hb]; intro e; cases e; cases hv) (by simp) rfl rfl rfl
    (fun cb hc hne => ?_) hrel (fun v ver' hv'' hlt => ?_) (fun _ _ _ _ => rfl) (fun v p' hv'' hp' => ?_)
  · have := hne p hpl
    simp [Array.getElem?_setIfInBounds_ne this]
  · rw [hv'] at hv''; cases hv''
    exact hS.fut b _ 0 ver' hb hv hlt
  · rw [hv'] at hv''; cases hv''
    rw [hp] at hp'; cases hp'
    exact .inl ⟨p, hpl, rfl⟩

theorem so_rangeStr (hS : S P G st.h w) (he : EnvRel G e a.tmps) (hg : GlobOk C G) {t : TypeId} {x : Operand} {x' : Oprd} (ho : o.op = .range t x) (ht : P.underlying t = some .string) (h1 : cOpr x = some x') (h : stepOp C e (.rangeStr x') st = some (v, st')) :
    Out P G st.h w ((execOp a.eval o).run P w) st'.h v := by
  simp only [stepOp] at h
  split at h
  · rename_i s hs
    cases h
    have hX := evO_V he hg h1 hs
    generalize hx : a.eval x = X at hX
    cases hX with
    | str s' =>
      have hB : BlkRel P (G.add 0 ⟨w.heap.size, 0⟩) (w.alloc (.stringIter s' 0)) G.n (.iter 0 s'.data.toList) :=
        ⟨⟨w.heap.size, 0⟩, s', Rel.add_pl _ _ _, alloc_at w _, rfl⟩
      obtain ⟨q1, q2⟩ := hS.push (.iter 0 s'.data.toList) 0 ⟨w.heap.size, 0⟩ rfl (Same.alloc w (.stringIter s' 0)) (Nat.le_refl _) hB
      refine ⟨_, w.alloc (.stringIter s' 0), .pointer (some ⟨w.heap.size, 0, none⟩), .inl ?_, ?_, q1, q2⟩
      · simp [execOp, ho, Instr.range, hx, run_underlying ht]
      · rw [hS.len.symm]
        exact .iter G.n ⟨w.heap.size, 0⟩ (Nat.lt_succ_self _) (Rel.add_pl _ _ _)
  · cases h

theorem tuple_of {l : List Value} {as : List AVal} (h : Vs G l as) : V G (.tuple l.toArray) (.tuple as) := Vs.tuple (by simpa using h)

theorem so_nextStr (hS : S P G st.h w) (he : EnvRel G e a.tmps) (hg : GlobOk C G) {x : Operand} {x' : Oprd} (ho : o.op = .next x true) (h1 : cOpr x = some x') (h : stepOp C e (.nextStr x') st = some (v, st')) :
    Out P G st.h w ((execOp a.eval o).run P w) st'.h v := by
  simp only [stepOp] at h
  split at h
  · rename_i b hb
    split at h
    · rename_i pos s hblk
      have hX := evO_V he hg h1 hb
      generalize hx : a.eval x = X at hX
      cases hX with
      | iter _ p k1 k2 =>
        obtain ⟨q, s', r1, r2, r3⟩ := hS.blk b _ hblk
        rw [k2] at r1; cases r1
        have hlen : s'.data.toList.length = s'.size := rfl
        split at h
        · cases h
          have hpos : ¬ pos < s'.size := by
            intro hlt
            have := List.drop_eq_nil_iff.1 r3.symm
            omega
          refine .same hS (cv := .tuple #[.bool false]) ?_ (tuple_of (.cons (.bool _) (.nil _)))
          simp [execOp, ho, Instr.next, hx, getObj_at (P := P) r2, hpos]
        · rename_i c s2
          cases h
          have hpos : pos < s'.size := by
            rcases Nat.lt_or_ge pos s'.size with hlt | hge
            · exact hlt
            · have : s'.data.toList.drop pos = [] := List.drop_eq_nil_of_le (by omega)
              rw [this] at r3; cases r3
          have hd := decode_eq s' pos hpos
          rw [← r3] at hd
          have hB : BlkRel P G { w with heap := w.heap.setIfInBounds p.cb (.stringIter s' (pos + (decode1 (c :: s2)).2)) } b (.iter (pos + (decode1 (c :: s2)).2) ((c :: s2).drop (decode1 (c :: s2)).2)) :=
            ⟨p, s', k2, by simp [(Array.getElem?_eq_some_iff.1 r2).1], by rw [r3, List.drop_drop]⟩
          obtain ⟨q1, q2⟩ := hS.putObj hblk rfl k2 rfl hB
          refine ⟨G, _, .tuple #[.bool true, .int .i64 pos, .int .i32 (decode1 (c :: s2)).1], .inl ?_, tuple_of (.cons (.bool _) (.cons (.int _ _) (.cons (.int _ _) (.nil _)))), q1, q2⟩
          simp [execOp, ho, Instr.next, hx, getObj_at (P := P) r2, hpos, hd, setObj_at (P := P) _ r2, goInt]
    · cases h
  · cases h

end Go.Shadow

namespace Go.Shadow
open Go

variable {P : Program} {C : Ctx} {G : Rel} {e : Env} {a : Act} {st st' : St} {w : World} {v : AVal} {o : Oper}

/-! ### Maps -/

theorem run_each {α : Type} (g : α → PUnit → Sem (ForInStep PUnit)) : ∀ (l : List α), (∀ x ∈ l, (g x PUnit.unit).run P w = .ok (.yield PUnit.unit) w) → (forIn (m := Sem) l PUnit.unit g).run P w = .ok PUnit.unit w
  | [], _ => rfl
  | x :: l, h => by
    rw [List.forIn_cons]
    simp only [Sem.run_bind, h x (by simp), Result.andThen_ok]
    exact run_each g l fun y hy => h y (by simp [hy])

theorem flatFs_fields (D : TypeId → Option (List BK)) : ∀ (l : List Field) (o : Nat) (js : List BK), flatFs P D l o = some js → ∀ f ∈ l, ∃ kf, D f.type = some kf ∧ P.cellsOf f.type = kf.length ∧ f.offset + kf.length ≤ o + js.length
  | [], o, js, h, f, hf => by cases hf
  | x :: l, o, js, h, f, hf => by
    simp only [flatFs] at h
    split at h
    · cases h
    · split at h
      · rename_i hoff
        split at h
        · rename_i kf hkf
          split at h
          · rename_i hcells
            split at h
            · rename_i jr hjr
              cases h
              rcases List.mem_cons.1 hf with rfl | hf
              · exact ⟨kf, hkf, hcells, by simp; omega⟩
              · obtain ⟨k2, q1, q2, q3⟩ := flatFs_fields D l _ jr hjr f hf
                exact ⟨k2, q1, q2, by simp; omega⟩
            · cases h
          · cases h
        · cases h
      · cases h

theorem check_flat {P : Program} {G : Rel} (em : Bool) : ∀ (d : Nat) (t : TypeId) (ks : List BK), flatN P d t = some ks → ∀ (D : Nat), d ≤ D → ∀ (w : World) (x : Value) (as : List AVal),
    Fits P G t x as → as.length = ks.length → (Instr.checkKey em D t x).run P w = .ok () w
  | 0, t, ks, h => by simp [flatN] at h
  | d + 1, t, ks, h => by
    intro D hD w x as hx hl
    obtain ⟨D, rfl⟩ : ∃ E, D = E + 1 := ⟨D - 1, by omega⟩
    unfold flatN at h
    split at h
    · rename_i hu; simp [Instr.checkKey, run_underlying hu]
    · rename_i k hu; simp [Instr.checkKey, run_underlying hu]
    · rename_i hu; simp [Instr.checkKey, run_underlying hu]
    · rename_i fs hu
      split at h
      · cases h
      · rcases hx with ⟨_, A, rfl, hA⟩ | ⟨hns, _⟩
        · simp only [Instr.checkKey, Sem.run_bind, run_underlying hu, Result.andThen_ok]
          rw [← Array.forIn_toList, run_each]
          · rfl
          · intro f hf
            obtain ⟨kf, q1, q2, q3⟩ := flatFs_fields (P := P) (flatN P d) fs.toList 0 ks h f hf
            obtain ⟨u, hu', hna, hone⟩ := flat_array d f.type kf q1
            obtain ⟨xa, xr, xf⟩ := part_fits (G := G) (P := P) (w := w) hu' hna hA f.offset kf.length q2 hone (by omega)
            have hck := check_flat em d f.type kf q1 D (by omega) w xa _ xf (by simp; omega)
            by_cases hn : f.name = "_"
            · simp [hn]
            · simp [hn, xr, hck]
        · exact absurd ⟨fs, hu⟩ hns
    · cases h

/-- What a key is. -/
def KKOk (P : Program) (t : TypeId) : KK → Prop
  | .one .int => ∃ j, P.underlying t = some (.int j)
  | .one .str => P.underlying t = some .string
  | .one .bool => False
  | .many ks => (∃ fs, P.underlying t = some (.struct fs)) ∧ flatN P 20 t = some ks

theorem keyKind_ok {t : TypeId} {kn : KK} (h : keyKind P t = some kn) : KKOk P t kn := by
  unfold keyKind at h
  split at h
  · rename_i j hu; cases h; exact ⟨j, hu⟩
  · rename_i hu; cases h; exact hu
  · rename_i fs hu
    split at h
    · rename_i ks hks; cases h; exact ⟨⟨fs, hu⟩, hks⟩
    · cases h
  · cases h

def EntV (G : Rel) (ents : List MapEntry) (es : List (AVal × AVal)) : Prop := ents.length = es.length ∧ ∀ (j : Nat) m a, ents[j]? = some m → es[j]? = some a → V G m.key a.1 ∧ V G m.val a.2

def FoundV (G : Rel) : Option (Nat × Value) → Option AVal → Prop
  | none, none => True
  | some (_, x), some a => V G x a
  | _, _ => False

theorem EntV.tail {G : Rel} {m : MapEntry} {ms : List MapEntry} {x : AVal × AVal} {xs : List (AVal × AVal)} (h : EntV G (m :: ms) (x :: xs)) : EntV G ms xs :=
  ⟨by simpa using h.1, fun j m a e e' => h.2 (j + 1) m a (by simpa using e) (by simpa using e')⟩

theorem findNow_V {kn : KK} {kind : TypeDesc} (hk : ∀ (X Y : Value) (x y : AVal) r, V G X x → V G Y y → keyEq kn x y = some r → Instr.sameNow kind X Y = some r) {K : Value} {k : AVal} (hK : V G K k) :
    ∀ (es : List (AVal × AVal)) (ents : List MapEntry) (i : Nat) (r : Option AVal), EntV G ents es → findA kn k es = some r → ∃ R, Instr.findNow kind K ents i = some R ∧ FoundV G R r
  | [], ents, i, r, hE, h => by
    simp [findA] at h; subst h
    cases ents with
    | nil => exact ⟨none, rfl, trivial⟩
    | cons m ms => exact absurd hE.1 (by simp)
  | (k', v) :: es, ents, i, r, hE, h => by
    cases ents with
    | nil => exact absurd hE.1 (by simp)
    | cons m ms =>
      obtain ⟨h1, h2⟩ := hE.2 0 m (k', v) rfl rfl
      simp only [findA] at h
      split at h
      · rename_i heq
        cases h
        refine ⟨some (i, m.val), ?_, h2⟩
        simp [Instr.findNow, hk K m.key k k' true hK h1 heq]
      · rename_i heq
        obtain ⟨R, q1, q2⟩ := findNow_V hk hK es ms (i + 1) r hE.tail h
        refine ⟨R, ?_, q2⟩
        simp [Instr.findNow, hk K m.key k k' false hK h1 heq, q1]
      · cases h

theorem findAsking_V {kn : KK} {t : TypeId} (hk : ∀ (X Y : Value) (x y : AVal) r, V G X x → V G Y y → keyEq kn x y = some r → (Op.equal t X Y).run P w = .ok r w) {K : Value} {k : AVal} (hK : V G K k) :
    ∀ (es : List (AVal × AVal)) (ents : List MapEntry) (i : Nat) (r : Option AVal), EntV G ents es → findA kn k es = some r → ∃ R, (Instr.findAsking t K ents i).run P w = .ok R w ∧ FoundV G R r
  | [], ents, i, r, hE, h => by
    simp [findA] at h; subst h
    cases ents with
    | nil => exact ⟨none, rfl, trivial⟩
    | cons m ms => exact absurd hE.1 (by simp)
  | (k', v) :: es, ents, i, r, hE, h => by
    cases ents with
    | nil => exact absurd hE.1 (by simp)
    | cons m ms =>
      obtain ⟨h1, h2⟩ := hE.2 0 m (k', v) rfl rfl
      simp only [findA] at h
      split at h
      · rename_i heq
        cases h
        refine ⟨some (i, m.val), ?_, h2⟩
        simp [Instr.findAsking, hk K m.key k k' true hK h1 heq]
      · rename_i heq
        obtain ⟨R, q1, q2⟩ := findAsking_V hk hK es ms (i + 1) r hE.tail h
        refine ⟨R, ?_, q2⟩
        simp [Instr.findAsking, hk K m.key k k' false hK h1 heq, q1]
      · cases h

theorem keyEq_run {t : TypeId} {ks : List BK} (ht : KKOk P t (.many ks)) {X Y : Value} {x y : AVal} {r : Bool} (hX : V G X x) (hY : V G Y y) (h : keyEq (.many ks) x y = some r) : (Op.equal t X Y).run P w = .ok r w := by
  simp only [keyEq] at h
  split at h
  · obtain ⟨A, rfl, vA, _⟩ := hX.agg_inv
    obtain ⟨B, rfl, vB, _⟩ := hY.agg_inv
    exact eq_flat 20 t ks ht.2 10000 (by omega) w _ _ _ _ r (.inl ⟨ht.1, A, rfl, vA⟩) (.inl ⟨ht.1, B, rfl, vB⟩) h
  · cases h

theorem findKey_V {kn : KK} {t : TypeId} (ht : KKOk P t kn) {K : Value} {k : AVal} (hK : V G K k) {es : List (AVal × AVal)} {ents : List MapEntry} {r : Option AVal} (hE : EntV G ents es) (h : findA kn k es = some r) :
    ∃ R, (Instr.findKey t K ents).run P w = .ok R w ∧ FoundV G R r := by
  cases kn with
  | one b =>
    cases b with
    | bool => exact absurd ht id
    | int =>
      obtain ⟨j, hu⟩ := ht
      have hk : ∀ (X Y : Value) (x y : AVal) r, V G X x → V G Y y → keyEq (.one .int) x y = some r → Instr.sameNow (.int j) X Y = some r := by
        intro X Y x y r hX hY hr
        simp only [keyEq] at hr
        cases hX <;> cases hY <;> simp [eqB] at hr
        obtain ⟨rfl, rfl⟩ := hr
        simp [Instr.sameNow]
      obtain ⟨R, q1, q2⟩ := findNow_V hk hK es ents 0 r hE h
      exact ⟨R, by simp [Instr.findKey, run_underlying hu, q1], q2⟩
    | str =>
      have hk : ∀ (X Y : Value) (x y : AVal) r, V G X x → V G Y y → keyEq (.one .str) x y = some r → Instr.sameNow .string X Y = some r := by
        intro X Y x y r hX hY hr
        simp only [keyEq] at hr
        cases hX <;> cases hY <;> simp [eqB] at hr
        rename_i s1 s2
        subst hr
        have hb : (s1 == s2) = (s1.data.toList == s2.data.toList) := by
          obtain ⟨⟨l1⟩⟩ := s1
          obtain ⟨⟨l2⟩⟩ := s2
          have e1 : ((⟨⟨l1⟩⟩ : ByteArray) == ⟨⟨l2⟩⟩) = ((⟨l1⟩ : Array UInt8) == ⟨l2⟩) := rfl
          rw [e1]
          simp
        simpa [Instr.sameNow] using hb
      have hu : P.underlying t = some .string := ht
      obtain ⟨R, q1, q2⟩ := findNow_V hk hK es ents 0 r hE h
      exact ⟨R, by simp [Instr.findKey, run_underlying hu, q1], q2⟩
  | many ks =>
    obtain ⟨⟨fs, hu⟩, hfl⟩ := ht
    have hask := findAsking_V (P := P) (w := w) (kn := .many ks) (t := t) (fun X Y x y r hX hY hr => keyEq_run ⟨⟨fs, hu⟩, hfl⟩ hX hY hr) hK es ents 0 r hE h
    cases ents with
    | nil =>
      obtain ⟨R, q1, q2⟩ := hask
      refine ⟨R, ?_, q2⟩
      simp [Instr.findAsking] at q1
      subst q1
      simp [Instr.findKey, run_underlying hu, Instr.findNow]
    | cons m ms =>
      obtain ⟨R, q1, q2⟩ := hask
      refine ⟨R, ?_, q2⟩
      have : Instr.findNow (.struct fs) K (m :: ms) 0 = none := by simp [Instr.findNow, Instr.sameNow]
      simp only [Instr.findKey, Sem.run_bind, run_underlying hu, Result.andThen_ok, this]
      exact q1

theorem checkKey_V {kn : KK} {t : TypeId} (ht : KKOk P t kn) {K : Value} {k : AVal} (hK : V G K k) (hf : keyFits kn k = true) (em : Bool) : (Instr.checkKey em 10000 t K).run P w = .ok () w := by
  cases kn with
  | one b =>
    cases b with
    | bool => exact absurd ht id
    | int =>
      obtain ⟨j, hu⟩ := ht
      have : ∀ n, (Instr.checkKey em (n + 1) t K).run P w = .ok () w := fun n => by simp [Instr.checkKey, run_underlying hu]
      exact this 9999
    | str =>
      have hu : P.underlying t = some .string := ht
      have : ∀ n, (Instr.checkKey em (n + 1) t K).run P w = .ok () w := fun n => by simp [Instr.checkKey, run_underlying hu]
      exact this 9999
  | many ks =>
    obtain ⟨as, rfl, hl⟩ : ∃ as, k = .agg as ∧ as.length = ks.length := by
      cases k <;> simp [keyFits] at hf
      exact ⟨_, rfl, hf⟩
    obtain ⟨A, rfl, hA, _⟩ := hK.agg_inv
    exact check_flat em 20 t ks ht.2 10000 (by omega) w _ as (.inl ⟨ht.1, A, rfl, hA⟩) hl

theorem so_lookup (hS : S P G st.h w) (he : EnvRel G e a.tmps) (hg : GlobOk C G) {t key el : TypeId} {m k : Operand} {m' k' : Oprd} {ok : Bool} {z : AVal} {kn : KK} (ho : o.op = .lookup t m k ok) (ht : P.underlying t = some (.map key el)) (h1 : cOpr m = some m') (h2 : cOpr k = some k')
    (hz : zeroOf P el = some z) (hk : keyKind P key = some kn) (h : stepOp C e (.lookup kn z ok m' k') st = some (v, st')) : OutS P G w ((execOp a.eval o).run P w) v := by
  simp only [stepOp] at h
  split at h
  · rename_i mv kv hm hkv
    split at h
    · rename_i es hes
      split at h
      · rename_i hfit
        split at h
        · rename_i r hr
          cases h
          have hM := evO_V he hg h1 hm
          have hK := evO_V he hg h2 hkv
          have hko := keyKind_ok hk
          have hz' : ∃ i zv, P.info? el = some i ∧ i.zero = some zv ∧ V G zv z := by
            unfold zeroOf at hz
            split at hz
            · rename_i i hi
              split at hz
              · rename_i zv hzv; exact ⟨i, zv, hi, hzv, ofValue_V G _ _ hz⟩
              · cases hz
            · cases hz
          obtain ⟨i, zv, hi, hzv, hVz⟩ := hz'
          have key : ∀ (ents : Array MapEntry), EntV G ents.toList es → ((a.eval m = .map none ∧ ents = #[]) ∨ ∃ r clock, a.eval m = .map (some r) ∧ w.heap[r]? = some (.map ents clock)) → OutS P G w ((execOp a.eval o).run P w) (if ok = true then .tuple [r.getD z, .bool r.isSome] else r.getD z) := by
            intro ents hE hget
            obtain ⟨R, q1, q2⟩ := findKey_V (P := P) (w := w) hko hK hE hr
            have q3 := checkKey_V (P := P) (w := w) hko hK hfit ents.isEmpty
            have hrun : ∀ (x : Value) (b : Bool), (R = none ∧ x = zv ∧ b = false ∨ (∃ j, R = some (j, x)) ∧ b = true) →
                (execOp a.eval o).run P w = .ok (.value (if ok = true then .tuple #[x, .bool b] else x)) w := by
              intro x b hb
              have hzr : (zeroValue el).run P w = .ok zv w := by simp [zeroValue, typeInfo, hi, hzv]
              rcases hget with ⟨hM', rfl⟩ | ⟨r', clock, hM', hr'⟩
              · rcases hb with ⟨rfl, rfl, rfl⟩ | ⟨⟨j, rfl⟩, rfl⟩
                · simp only [execOp, ho, Instr.lookup, hM', Sem.run_bind, run_underlying ht, Result.andThen_ok, Sem.run_pure, q3, q1, hzr]
                · simp only [execOp, ho, Instr.lookup, hM', Sem.run_bind, run_underlying ht, Result.andThen_ok, Sem.run_pure, q3, q1]
              · rcases hb with ⟨rfl, rfl, rfl⟩ | ⟨⟨j, rfl⟩, rfl⟩
                · simp only [execOp, ho, Instr.lookup, hM', Sem.run_bind, run_underlying ht, Result.andThen_ok, Sem.run_pure, getObj_at (P := P) hr', q3, q1, hzr]
                · simp only [execOp, ho, Instr.lookup, hM', Sem.run_bind, run_underlying ht, Result.andThen_ok, Sem.run_pure, getObj_at (P := P) hr', q3, q1]
            cases R with
            | none =>
              cases r with
              | some u => exact absurd q2 id
              | none =>
                have := hrun zv false (.inl ⟨rfl, rfl, rfl⟩)
                cases ok with
                | true => exact .same hS this (tuple_of (.cons hVz (.cons (.bool _) (.nil _))))
                | false => exact .same hS this hVz
            | some y =>
              obtain ⟨j, y⟩ := y
              cases r with
              | none => exact absurd q2 id
              | some u =>
                have q2 : V G y u := q2
                have := hrun y true (.inr ⟨⟨j, rfl⟩, rfl⟩)
                cases ok with
                | true => exact .same hS this (tuple_of (.cons q2 (.cons (.bool _) (.nil _))))
                | false => exact .same hS this q2
          split at hes
          · cases hes
            refine key #[] ⟨rfl, fun j m a e => by simp at e⟩ (.inl ⟨?_, rfl⟩)
            generalize a.eval m = M at hM
            cases hM
            rfl
          · split at hes
            · rename_i b es' hb
              cases hes
              obtain ⟨p, ents, clock, hX, r1, r2, r3, r4⟩ := map_at hS hM hb
              exact key ents ⟨by simpa using r3, fun j m a e e' => r4 j m a (by simpa using e) e'⟩ (.inr ⟨_, clock, hX, r2⟩)
            · cases hes
          · cases hes
        · cases h
      · cases h
    · cases h
  · cases h

theorem so_update (hS : S P G st.h w) (he : EnvRel G e a.tmps) (hg : GlobOk C G) {t key el : TypeId} {m k x : Operand} {m' k' x' : Oprd} {kn : KK} (ho : o.op = .mapUpdate t m k x ∨ o.op = .insert t m k x) (ht : P.underlying t = some (.map key el)) (h1 : cOpr m = some m') (h2 : cOpr k = some k') (h3 : cOpr x = some x')
    (hk : keyKind P key = some kn) (h : stepOp C e (.update kn m' k' x') st = some (v, st')) : Out P G st.h w ((execOp a.eval o).run P w) st'.h v := by
  simp only [stepOp] at h
  split at h
  · rename_i b kv xv hm hkv hxv
    split at h
    · rename_i es hes
      split at h
      · rename_i hfit
        split at h
        · rename_i hr
          cases h
          have hK := evO_V he hg h2 hkv
          have hX := evO_V he hg h3 hxv
          have hko := keyKind_ok hk
          obtain ⟨p, ents, clock, hM, r1, r2, r3, r4⟩ := map_at hS (evO_V he hg h1 hm) hes
          obtain ⟨R, q1, q2⟩ := findKey_V (P := P) (w := w) hko hK (es := es) (ents := ents.toList) ⟨by simpa using r3, fun j m a e e' => r4 j m a (by simpa using e) e'⟩ hr
          have q3 := checkKey_V (P := P) (w := w) hko hK hfit false
          have hR : R = none := by
            cases R with
            | none => rfl
            | some y => exact absurd q2 id
          subst hR
          have hB : BlkRel P G { w with heap := w.heap.setIfInBounds p.cb (.map (ents.push { key := a.eval k, val := a.eval x, born := clock }) (clock + 1)) } b (.map (es ++ [(kv, xv)])) := by
            refine ⟨p, ents.push { key := a.eval k, val := a.eval x, born := clock }, clock + 1, r1, by simp [(Array.getElem?_eq_some_iff.1 r2).1], by simp [r3], fun j m a' e1 e2 => ?_⟩
            rw [Array.getElem?_push] at e1
            split at e1
            · rename_i hj
              cases e1
              rw [List.getElem?_append_right (by omega), hj, r3] at e2
              simp at e2; subst e2
              exact ⟨hK, hX⟩
            · rename_i hj
              have hlt : j < ents.size := (Array.getElem?_eq_some_iff.1 e1).1
              rw [List.getElem?_append_left (by omega)] at e2
              exact r4 j m a' e1 e2
          obtain ⟨s1, s2⟩ := hS.putObj hes rfl r1 rfl hB
          refine ⟨G, _, undef, .inr ⟨?_, rfl⟩, V_undef G, s1, s2⟩
          rcases ho with ho | ho
          · simp only [execOp, ho, Instr.mapUpdate, hM, Sem.run_bind, run_underlying ht, Result.andThen_ok, getObj_at (P := P) r2, q3, q1, setObj_at (P := P) _ r2]
            rfl
          · simp only [execOp, ho, Instr.mapUpdate, hM, Sem.run_bind, run_underlying ht, Result.andThen_ok, getObj_at (P := P) r2, q3, q1, setObj_at (P := P) _ r2]
            rfl
        · cases h
      · cases h
    · cases h
  · cases h

end Go.Shadow

namespace Go.Shadow
open Go

variable {P : Program} {C : Ctx} {G : Rel} {e : Env} {a : Act} {st st' : St} {w : World} {v : AVal} {o : Oper}

/-! ### Values built of parts -/

theorem foldl_put : ∀ (l : List Value) (k off : Nat) (cells : Array Value), ((l.zipIdx k).foldl (fun cs (c, j) => cs.setIfInBounds (off + j) c) cells) = putArr cells (off + k) l
  | [], k, off, cells => rfl
  | v :: l, k, off, cells => by
    rw [List.zipIdx_cons, List.foldl_cons, foldl_put l (k + 1) off, putArr]
    rfl

theorem fold_put (A cells : Array Value) (off : Nat) : (A.zipIdx.foldl (fun cs (c, j) => cs.setIfInBounds (off + j) c) cells) = putArr cells off A.toList := by
  rw [← Array.foldl_toList, Array.toList_zipIdx]
  exact foldl_put A.toList 0 off cells

theorem putArr_V {A : Array Value} {as : List AVal} (hA : Vs G A.toList as) {vs : List Value} {bs : List AVal} (hv : Vs G vs bs) (off : Nat) (hle : off + bs.length ≤ as.length) : Vs G (putArr A off vs).toList (putCells as off bs) := by
  have hsz : A.size = as.length := by simpa using hA.1
  refine ⟨by rw [Array.length_toList, putArr_size, putCells_length _ _ _ hle, hsz], fun j v a e e' => ?_⟩
  rw [Array.getElem?_toList, putArr_get _ _ _ _ (by rw [hv.1]; omega)] at e
  rw [putCells_get _ _ _ _ hle] at e'
  rw [hv.1] at e
  split at e'
  · rename_i hin
    rw [if_pos hin] at e
    exact hv.2 _ v a e e'
  · rename_i hin
    rw [if_neg hin] at e
    exact hA.2 j v a (by simpa using e) e'

theorem putArr_one {A : Array Value} (hA : ∀ u ∈ A.toList, u.oneCell' = true) {vs : List Value} (hv : ∀ u ∈ vs, u.oneCell' = true) (off : Nat) (hle : off + vs.length ≤ A.size) : ∀ u ∈ (putArr A off vs).toList, u.oneCell' = true := by
  intro u hu
  obtain ⟨j, hj, e⟩ := List.mem_iff_getElem.1 hu
  have : (putArr A off vs)[j]? = some u := by rw [← e]; simp at hj; simp [hj]
  rw [putArr_get _ _ _ _ hle] at this
  split at this
  · exact hv u (List.mem_of_getElem? this)
  · obtain ⟨hj', e'⟩ := Array.getElem?_eq_some_iff.1 this
    exact hA u (by rw [← e']; simp)

theorem fill_V (he : EnvRel G e a.tmps) (hg : GlobOk C G) {place place' : Nat → Option (Nat × Nat)} (hpl : ∀ i x, place i = some x → place' i = some x) : ∀ {ps : List (Nat × Operand)} {ys : List (Nat × Nat × Oprd)} {vs : List (Nat × Nat × AVal)} {cells : Array Value} {z r : List AVal},
    cParts place ps = some ys → evParts C e ys = some vs → fillA z vs = some r → Vs G cells.toList z → (∀ u ∈ cells.toList, u.oneCell' = true) →
    ∃ A, Instr.fill place' cells (ps.map fun (i, x) => (i, a.eval x)) = some A ∧ Vs G A.toList r ∧ ∀ u ∈ A.toList, u.oneCell' = true
  | [], ys, vs, cells, z, r, hc, hv, hf, hV, h1 => by
    simp [cParts] at hc; subst hc
    simp [evParts] at hv; subst hv
    simp [fillA] at hf; subst hf
    exact ⟨cells, rfl, hV, h1⟩
  | (i, x) :: ps, ys, vs, cells, z, r, hc, hv, hf, hV, h1 => by
    simp only [cParts] at hc
    split at hc
    · rename_i off size y ys' hp hy hys
      cases hc
      simp only [evParts] at hv
      split at hv
      · rename_i u hu
        split at hv
        · rename_i vs' hvs
          cases hv
          simp only [fillA] at hf
          split at hf
          · rename_i hcond
            obtain ⟨c1, c2, c3⟩ := hcond
            have hU := evO_V he hg hy hu
            have hcells := hU.cells (storable_unk c1)
            have hone := hU.storable c1
            have hsz : (a.eval x).cells.size = size := by have := hcells.1; rw [← c2]; simpa using this
            have hcs : cells.size = z.length := by simpa using hV.1
            obtain ⟨A, q1, q2, q3⟩ := fill_V (place := place) he hg hpl hys hvs hf (putArr_V hV hcells off (by omega)) (putArr_one h1 hone off (by simp; omega))
            refine ⟨A, ?_, q2, q3⟩
            rw [List.map_cons, Instr.fill, hpl i _ hp]
            simp only
            rw [if_neg (by simp [hsz]; omega), fold_put]
            exact q1
          · cases hf
        · cases hv
      · cases hv
    · cases hc

theorem run_mapM_places : ∀ (l : List Field), (∀ f ∈ l, (P.info? f.type).isSome = true) → (l.mapM (m := Sem) fun f => do pure (f.offset, ← sizeOf f.type)).run P w = .ok (l.map fun f => (f.offset, P.cellsOf f.type)) w
  | [], _ => rfl
  | f :: l, h => by
    have ih := run_mapM_places l fun g hg => h g (by simp [hg])
    obtain ⟨i, hi⟩ := Option.isSome_iff_exists.1 (h f (by simp))
    rw [List.mapM_cons]
    simp only [Sem.run_bind, sizeOf, typeInfo, run_program, Result.andThen_ok, hi, Sem.run_pure] at ih ⊢
    rw [ih]
    simp [Program.cellsOf, hi]

theorem so_build (hS : S P G st.h w) (he : EnvRel G e a.tmps) (hg : GlobOk C G) {t : TypeId} {ps : Array (Nat × Operand)} {ys : List (Nat × Nat × Oprd)} {z : List AVal} (ho : o.op = .build t ps) (hz : zeroCellsOf P t = some z)
    (ht : (∃ fs, P.underlying t = some (.struct fs) ∧ fs.toList.all (fun f => (P.info? f.type).isSome) = true ∧ cParts (fun i => (fs[i]?).bind fun f => (P.info? f.type).map fun j => (f.offset, j.size)) ps.toList = some ys) ∨
      ∃ n el j, P.underlying t = some (.array n el) ∧ P.info? el = some j ∧ cParts (fun i => some (i * j.size, j.size)) ps.toList = some ys)
    (h : stepOp C e (.build z ys) st = some (v, st')) : Out P G st.h w ((execOp a.eval o).run P w) st'.h v := by
  simp only [stepOp] at h
  split at h
  · rename_i vs hvs
    simp only [Option.map_eq_some_iff] at h
    obtain ⟨r, hr, h⟩ := h
    cases h
    obtain ⟨i, zv, hi, hzv, hV, h1⟩ := zeroCells_inv hz
    have hmap : (ps.map fun (i, x) => (i, a.eval x)).toList = ps.toList.map fun (i, x) => (i, a.eval x) := by simp
    rcases ht with ⟨fs, ht, hall, hp⟩ | ⟨n, el, j, ht, hj, hp⟩
    · have hinfo : ∀ f ∈ fs.toList, (P.info? f.type).isSome = true := List.all_eq_true.1 hall
      obtain ⟨A, q1, q2, q3⟩ := fill_V (C := C) (a := a) (place' := ((fs.map fun f => (f.offset, P.cellsOf f.type))[·]?)) he hg (by
        intro i x hx
        cases hf : fs[i]? with
        | none => simp [hf] at hx
        | some f =>
          simp only [hf, Option.bind_some, Option.map_eq_some_iff] at hx
          obtain ⟨j, hj, rfl⟩ := hx
          simp [hf, Program.cellsOf, hj]) hp hvs hr (hV G) h1
      refine .same hS (cv := .agg A) ?_ (q2.agg q3)
      have hm := run_mapM_places (P := P) (w := w) fs.toList hinfo
      have hm2 : (fs.mapM (m := Sem) fun f => do pure (f.offset, ← sizeOf f.type)).run P w = .ok (fs.map fun f => (f.offset, P.cellsOf f.type)) w := by
        rw [Array.mapM_eq_mapM_toList, Sem.run_map, hm]
        simp
        apply Array.ext'
        simp
      simp only [execOp, ho, Instr.build, zeroValue, typeInfo, Sem.run_bind, run_program, Result.andThen_ok, hi, hzv, Sem.run_pure, run_underlying ht, hm2, hmap, q1]
    · obtain ⟨A, q1, q2, q3⟩ := fill_V (C := C) (a := a) (place' := fun i => some (i * j.size, j.size)) he hg (fun _ _ h => h) hp hvs hr (hV G) h1
      refine .same hS (cv := .agg A) ?_ (q2.agg q3)
      simp only [execOp, ho, Instr.build, zeroValue, typeInfo, Sem.run_bind, run_program, Result.andThen_ok, hi, hzv, Sem.run_pure, run_underlying ht, sizeOf, hj, hmap, q1]
  · cases h

theorem so_buildSlice (hS : S P G st.h w) (he : EnvRel G e a.tmps) (hg : GlobOk C G) {t el : TypeId} {n : Nat} {j : TypeInfo} {ps : Array (Nat × Operand)} {ys : List (Nat × Nat × Oprd)} {z : List AVal} (ho : o.op = .buildSlice t n ps) (ht : P.underlying t = some (.slice el)) (hj : P.info? el = some j) (hz : zeroCellsOf P el = some z)
    (h24 : n * j.size ≤ 16777216) (hzl : z.length = j.size) (hsz : 0 < j.size) (hp : cParts (fun i => some (i * j.size, j.size)) ps.toList = some ys)
    (h : stepOp C e (.buildSlice n j.size z ys) st = some (v, st')) : Out P G st.h w ((execOp a.eval o).run P w) st'.h v := by
  simp only [stepOp] at h
  split at h
  · rename_i vs hvs
    simp only [Option.map_eq_some_iff] at h
    obtain ⟨r, hr, h⟩ := h
    cases h
    obtain ⟨i, zv, hi, hzv, hV, h1⟩ := zeroCells_inv hz
    rw [hj] at hi; cases hi
    have hzs : zv.cells.size = j.size := by have := (hV G).1; rw [← hzl]; simpa using this
    have hmap : (ps.map fun (i, x) => (i, a.eval x)).toList = ps.toList.map fun (i, x) => (i, a.eval x) := by simp
    have hmV := madeCells_V (hV G) n (by omega)
    rw [hzl] at hmV
    obtain ⟨A, q1, q2, q3⟩ := fill_V (C := C) (a := a) (place' := fun i => some (i * j.size, j.size)) he hg (fun _ _ h => h) hp hvs hr hmV (madeCells_one h1 _ (by omega))
    have hw := Same.alloc w (.cells A el)
    have hnone : ∀ o, G.im w.heap.size o = none := by
      intro o
      cases hq : G.im w.heap.size o with
      | none => rfl
      | some v =>
        have := hS.im _ _ _ hq
        simp [World.cell?] at this
    obtain ⟨s1, s2⟩ := hS.more hw (fun cb o => if cb = w.heap.size then A[o]? else G.im cb o) (fun cb o v hv => by
        by_cases hc : cb = w.heap.size
        · subst hc; rw [hnone] at hv; cases hv
        · simp only [if_neg hc]; exact hv) (fun cb o v hv hn => by
        by_cases hc : cb = w.heap.size
        · subst hc
          simp only [if_true] at hv
          exact ⟨Nat.le_refl _, by simp only [World.cell?]; rw [alloc_at]; exact hv⟩
        · simp only [if_neg hc] at hv; rw [hn] at hv; cases hv)
    refine ⟨_, w.alloc (.cells A el), .slice (some ⟨w.heap.size, 0, none⟩) n n, .inl ?_, ?_, s1, s2⟩
    · have hn24 : ¬ (n * j.size > 2 ^ 24) := by omega
      by_cases h0 : n * j.size = 0
      · have hm0 : madeCells zv.cells 0 = (Array.range 0).map fun x => (#[] : Array Value)[x % (#[] : Array Value).size]! := by
          unfold madeCells; simp
        rw [h0, hm0] at q1
        simp only [execOp, ho, Instr.buildSlice, Sem.run_bind, run_underlying ht, Result.andThen_ok, sizeOf, typeInfo, run_program, hj, Sem.run_pure, Sem.run_ite, hn24, if_false, h0, if_true, hmap, q1, newRow]
        rfl
      · have hm0 : madeCells zv.cells (n * j.size) = (Array.range (n * j.size)).map fun x => zv.cells[x % zv.cells.size]! := rfl
        rw [hm0] at q1
        simp only [execOp, ho, Instr.buildSlice, Sem.run_bind, run_underlying ht, Result.andThen_ok, sizeOf, typeInfo, run_program, hj, Sem.run_pure, Sem.run_ite, hn24, if_false, h0, zeroValue, hzv, hmap, q1, newRow]
        rfl
    · have hle : G.le { G with im := fun cb o => if cb = w.heap.size then A[o]? else G.im cb o } := s2.le
      refine .islice ⟨w.heap.size, 0, none⟩ n n true r (fun k => A.getD k undef) (Nat.le_refl _) (fun _ => rfl) (fun k c e => ?_) (fun k c e => ?_)
      · have hk : k < A.size := by have := q2.1; have := (List.getElem?_eq_some_iff.1 e).1; simp at *; omega
        refine ⟨rfl, ?_, ?_⟩
        · simp [hk, Array.getD]
        · simp only [Array.getD, hk, dite_true]
          exact q3 _ (by simp)
      · have hk : k < A.size := by have := q2.1; have := (List.getElem?_eq_some_iff.1 e).1; simp at *; omega
        simp only [Array.getD, hk, dite_true]
        exact (q2.2 k A[k] c (by simp [hk]) e).mono hle
  · cases h

end Go.Shadow

namespace Go.Shadow
open Go

variable {P : Program} {C : Ctx} {G : Rel} {e : Env} {a : Act} {st st' : St} {w : World} {v : AVal} {o : Oper}

/-! ### append -/

/-- What the second argument of append yields. -/
structure Yields (P : Program) (i : TypeInfo) (z : Value) (tx : TypeId) (x : Value) (n : Nat) (news : List Value) (w : World) : Prop where
  kind : (((∃ e', P.underlying tx = some (.slice e')) ∨ P.underlying tx = some .string) ∧ (∀ w' : World, (Builtin.lenOf x).run P w' = .ok n w') ∧
      (Builtin.firstCells i.size n x).run P w = .ok news.toArray w ∧ (Builtin.firstCells i.size n x).run P w.drew = .ok news.toArray w.drew) ∨
    ((∃ k, P.underlying tx = some (.int k)) ∧ (∃ k, x = .int k n) ∧ n * i.bytes ≤ 140737488355328 ∧ n ≤ 9223372036854775807 ∧ news = (Builtin.zeroCells z.cells n).toList ∧ i.zero = some z)
  newsLen : news.length = n * i.size
  one : ∀ u ∈ news, u.oneCell' = true

theorem append_types {ts : Array TypeId} {t tx : TypeId} (h0 : ts[0]? = some t) (h1 : ts[1]? = some tx) (ty : TypeId) (args : Array Value) : Builtin.append_ ts ty args = Builtin.append_ #[t, tx] ty args := by
  unfold Builtin.append_
  simp only [h0, h1]
  rfl

theorem wrap_nat {n : Nat} (h : n ≤ 9223372036854775807) : IntKind.i64.wrap (n : Int) = (n : Int) := by rw [IntKind.wrap_i64]; omega

/-- There is room. -/
theorem run_append_room' (t tx ty el : TypeId) (i : TypeInfo) (z : Value) (ht : P.underlying t = some (.slice el)) (hi : P.info? el = some i) (b off sLen sCap : Nat) (x : Value) (n : Nat) (news : List Value) (hs : Yields P i z tx x n news w)
    (hroom : sLen + n ≤ sCap) (hc : ∀ j, j < news.length → (w.cell? ⟨b, off + sLen * i.size + j, none⟩).isSome = true) (hf : ∀ j, j < news.length → w.frozen? ⟨b, off + sLen * i.size + j, none⟩ = false) :
    (Builtin.append_ #[t, tx] ty #[.slice (some ⟨b, off, none⟩) sLen sCap, x]).run P w = .ok (.slice (some ⟨b, off, none⟩) (sLen + n) sCap) (w.setCells b (off + sLen * i.size) news) := by
  rcases hs.kind with ⟨hk, hlen, hcells, hcellsD⟩ | ⟨⟨k, hk⟩, ⟨k', rfl⟩, hb, h63, hnews, hz⟩
  · exact run_append_room_src w t tx ty el i ht hi b off sLen sCap x n news ⟨hk, hlen, hcells, hcellsD, hs.newsLen, hs.one⟩ hroom hc hf
  · have hst := run_storeCells_cells (P := P) b (off + sLen * i.size) news 0 w (by simpa using hc) (by simpa using hf) hs.one
    simp only [Nat.add_zero] at hst
    have hwr := wrap_nat h63
    have h0 : ¬ ((n : Int) < 0) := by omega
    have hbi : ¬ (281474976710656 < (n : Int) * (i.bytes : Int)) := by
      rw [← Int.natCast_mul]; omega
    have hl := hs.newsLen
    by_cases hz0 : n * i.size = 0
    · have : news = [] := List.eq_nil_of_length_eq_zero (by omega)
      subst this
      simp [Builtin.append_, run_underlying ht, run_underlying hk, sizeOf, typeInfo, hi, asInt, asIntOf, hwr, h0, hbi, hroom, Addr.add_lit, hz0, storeCells, World.setCells]
    · rw [hnews] at hst ⊢
      simp [Builtin.append_, run_underlying ht, run_underlying hk, sizeOf, typeInfo, hi, asInt, asIntOf, hwr, h0, hbi, hroom, Addr.add_lit, hz0, zeroValue, hz, hst]

/-- Nothing is appended. -/
theorem run_append_none' (t tx ty el : TypeId) (i : TypeInfo) (z : Value) (ht : P.underlying t = some (.slice el)) (hi : P.info? el = some i) (base : Option Addr) (sLen sCap : Nat) (x : Value) (hs : Yields P i z tx x 0 [] w)
    (hroom : sLen ≤ sCap) : (Builtin.append_ #[t, tx] ty #[.slice base sLen sCap, x]).run P w = .ok (.slice base sLen sCap) w := by
  rcases hs.kind with ⟨hk, hlen, hcells, hcellsD⟩ | ⟨⟨k, hk⟩, ⟨k', rfl⟩, hb, h63, hnews, hz⟩
  · rcases hk with ⟨e', hk⟩ | hk <;> cases base <;> simp [Builtin.append_, run_underlying ht, run_underlying hk, sizeOf, typeInfo, hi, hlen, hroom, hcells, storeCells]
  · have hwr := wrap_nat h63
    have hwr0 : IntKind.i64.wrap 0 = 0 := hwr
    cases base <;> simp [Builtin.append_, run_underlying ht, run_underlying hk, sizeOf, typeInfo, hi, asInt, asIntOf, hwr0, hroom, storeCells]

/-- There is none: a new row. -/
theorem run_append_grow' (t tx ty el : TypeId) (i : TypeInfo) (z : Value) (ht : P.underlying t = some (.slice el)) (hi : P.info? el = some i) (hz : i.zero = some z) (base : Option Addr) (sLen sCap : Nat) (olds : List Value)
    (hold : (Builtin.firstCells i.size sLen (.slice base sLen sCap)).run P w.drew = .ok olds.toArray w.drew) (x : Value) (n : Nat) (news : List Value) (hs : Yields P i z tx x n news w)
    (hg : sCap < sLen + n) (h63 : ((sLen + n : Nat) : Int) ≤ 9223372036854775807) (hfit : Builtin.nextslicecap (sLen + n) sCap * i.bytes ≤ 281474976710656) :
    (Builtin.append_ #[t, tx] ty #[.slice base sLen sCap, x]).run P w =
      .ok (.slice (some ⟨w.heap.size, 0, none⟩) (sLen + n) (grownCap w (sLen + n) sCap el))
        (w.drew.alloc (.cells ((olds ++ news).toArray ++ Builtin.zeroCells z.cells (grownCap w (sLen + n) sCap el - (sLen + n))) el)) := by
  rcases hs.kind with ⟨hk, hlen, hcells, hcellsD⟩ | ⟨⟨k, hk⟩, ⟨k', rfl⟩, hb, hn63, hnews, _⟩
  · exact run_append_grow_src w t tx ty el i z ht hi hz base sLen sCap olds hold x n news ⟨hk, hlen, hcells, hcellsD, hs.newsLen, hs.one⟩ hg h63 hfit
  · have hn : ¬ (sLen + n ≤ sCap) := by omega
    have h63' : ¬ (9223372036854775807 < ((sLen : Int) + (n : Int))) := by omega
    have h48' : ¬ (281474976710656 < Builtin.nextslicecap (sLen + n) sCap * i.bytes) := by omega
    have hwr := wrap_nat hn63
    have h0 : ¬ ((n : Int) < 0) := by omega
    have hbi : ¬ (281474976710656 < (n : Int) * (i.bytes : Int)) := by
      rw [← Int.natCast_mul]; omega
    have hl := hs.newsLen
    by_cases hz0 : n * i.size = 0
    · have : news = [] := List.eq_nil_of_length_eq_zero (by omega)
      subst this
      simp [Builtin.append_, run_underlying ht, run_underlying hk, sizeOf, typeInfo, zeroValue, hi, hz, asInt, asIntOf, hwr, h0, hbi, hn, h63', h48', Question.forced, hold, newRow, grownCap, hz0]
    · rw [hnews]
      simp [Builtin.append_, run_underlying ht, run_underlying hk, sizeOf, typeInfo, zeroValue, hi, hz, asInt, asIntOf, hwr, h0, hbi, hn, h63', h48', Question.forced, hold, newRow, grownCap, hz0]
      congr 2
      apply Array.ext'
      simp [List.append_assoc]

theorem zeroCells_one {zs : Array Value} (h : ∀ u ∈ zs.toList, u.oneCell' = true) (n : Nat) : ∀ u ∈ (Builtin.zeroCells zs n).toList, u.oneCell' = true := by
  intro u hu
  unfold Builtin.zeroCells at hu
  simp only [Array.toList_map, List.mem_map, Array.toList_range, List.mem_range] at hu
  obtain ⟨i, hi, rfl⟩ := hu
  have h0 : 0 < zs.size := by
    rcases Nat.eq_zero_or_pos zs.size with h | h
    · rw [h] at hi; simp at hi
    · exact h
  have hlt : i % zs.size < zs.size := Nat.mod_lt _ h0
  rw [getElem!_pos zs _ hlt]
  exact h _ (by simp)

theorem room_63 {n b : Nat} (h : n * b ≤ 140737488355328) (hb : 0 < b) : n ≤ 140737488355328 := Nat.le_trans (Nat.le_mul_of_pos_right n hb) h

/-- The row that append makes anew. -/
theorem grown_V (hS : S P G st.h w) {t tx ty el : TypeId} {i : TypeInfo} {zv : Value} (ht : P.underlying t = some (.slice el)) (hi : P.info? el = some i) (hz : i.zero = some zv) (hz1 : ∀ u ∈ zv.cells.toList, u.oneCell' = true) (hzs : zv.cells.size = i.size) (hb : 0 < i.bytes)
    {base : Option Addr} {sLen sCap : Nat} {olds : List Value} {oldA : List AVal} (holdV : Vs G olds oldA) (hold1 : ∀ u ∈ olds, u.oneCell' = true) (holdl : oldA.length = sLen * i.size)
    (hold : (Builtin.firstCells i.size sLen (.slice base sLen sCap)).run P w.drew = .ok olds.toArray w.drew) {Y : Value} {n : Nat} {news : List Value} {new : List AVal} (hY : Yields P i zv tx Y n news w) (hnew : Vs G news new) (hg : sCap < sLen + n)
    (hroom : (sLen + n) * i.bytes ≤ 140737488355328) :
    ∃ (A : Array Value), (Builtin.append_ #[t, tx] ty #[.slice base sLen sCap, Y]).run P w = .ok (.slice (some ⟨w.heap.size, 0, none⟩) (sLen + n) (grownCap w (sLen + n) sCap el)) (w.drew.alloc (.cells A el)) ∧ A.size = grownCap w (sLen + n) sCap el * i.size ∧ sLen + n ≤ grownCap w (sLen + n) sCap el ∧
      (oldA ++ new).length = (sLen + n) * i.size ∧ Vs G (A.toList.take ((sLen + n) * i.size)) (oldA ++ new) ∧ ∀ u ∈ A.toList, u.oneCell' = true := by
  have hge := grownCap_ge w (sLen + n) sCap el
  have h63 := room_63 hroom hb
  have hl := hY.newsLen
  have hnl : new.length = n * i.size := by rw [← hnew.1, hl]
  have hol : olds.length = sLen * i.size := by rw [holdV.1, holdl]
  have hlen : (olds ++ news).length = (sLen + n) * i.size := by rw [List.length_append, hol, hl, Nat.add_mul]
  refine ⟨_, run_append_grow' t tx ty el i zv ht hi hz base sLen sCap olds hold Y n news hY hg (by omega) (growslice_fits hg hroom), ?_, hge, ?_, ?_, ?_⟩
  · rw [Array.size_append, size_zeroCells, hzs, List.size_toArray, hlen, ← Nat.add_mul]
    congr 1
    omega
  · rw [List.length_append, holdl, hnl, Nat.add_mul]
  · rw [Array.toList_append, List.take_append_of_le_length (by simp only [List.length_append] at hlen ⊢; omega), List.take_of_length_le (by simp only [List.length_append] at hlen ⊢; omega)]
    exact holdV.append hnew
  · intro u hu
    simp only [Array.toList_append, List.mem_append] at hu
    rcases hu with (hu | hu) | hu
    · exact hold1 u hu
    · exact hY.one u hu
    · exact zeroCells_one hz1 _ u hu

/-- A new block for what append makes anew. -/
theorem grown_row (hS : S P G st.h w) {el : TypeId} {A : Array Value} {size n c : Nat} {cs : List AVal} (hA : A.size = c * size) (hc : n ≤ c) (hcs : cs.length = n * size) (hV : Vs G (A.toList.take (n * size)) cs) (h1 : ∀ u ∈ A.toList, u.oneCell' = true) :
    ∃ G', V G' (.slice (some ⟨w.heap.size, 0, none⟩) n c) (newRowA st size n cs).1 ∧ S P G' (newRowA st size n cs).2.h (w.drew.alloc (.cells A el)) ∧ Ext G st.h w G' (newRowA st size n cs).2.h (w.drew.alloc (.cells A el)) := by
  have hle : n * size ≤ A.size := by rw [hA]; exact Nat.mul_le_mul_right _ hc
  obtain ⟨h2, h3⟩ := hS.pushRow (w' := w.drew.alloc (.cells A el)) cs w.heap.size A el (0, 0) (n * size) hcs ((Same.drew w).trans (Same.alloc _ _)) (Nat.le_refl _) (alloc_at w.drew _) hle hV h1 (fun j hj => by simp)
  refine ⟨_, ?_, h2, h3⟩
  simp only [newRowA]
  rw [hS.len.symm]
  exact .mslice G.n _ 0 _ _ _ false ⟨w.heap.size, A.size⟩ ⟨w.heap.size, 0, none⟩ _ (Nat.lt_succ_self _) (Rel.add_pl _ _ _) rfl rfl (.inr rfl) hc hc (by simp) (by simp only [hA]; omega)

/-- A block's new version. -/
def Rel.ver (G : Rel) (b ver : Nat) (p : Place) : Rel := { G with pl := fun i v => if i = b ∧ v = ver then some p else G.pl i v }

theorem Rel.le_ver {G : Rel} {b ver : Nat} {p : Place} (h : G.pl b ver = none) : G.le (G.ver b ver p) :=
  ⟨Nat.le_refl _, fun i v q hb hq => by
    simp only [Rel.ver]
    split
    · rename_i hc; obtain ⟨rfl, rfl⟩ := hc; rw [h] at hq; cases hq
    · exact hq, fun _ _ _ h => h⟩

/-- A row that has more cells than it had, at its own place or at a new one. -/
theorem S.lengthen {P : Program} {G : Rel} {h : List ABlk} {w w' : World} (hS : S P G h w) {b ver ver' : Nat} {cs cs' : List AVal} {p p' : Place} {A : Array Value} {el : TypeId} {fr : Nat × Nat} (hr : row? h b ver = some cs) (hp : G.pl b ver = some p) (hv : ver < ver')
    (hw0 : w.heap.size ≤ w'.heap.size) (ht : w'.tape = w.tape) (hos : w'.os = w.os) (hout : w'.output = w.output) (hw : ∀ cb, cb < w.heap.size → p.cb ≠ cb → w'.heap[cb]? = w.heap[cb]?)
    (hA : w'.heap[p'.cb]? = some (.cells A el fr)) (hsz : A.size = p'.size) (hl : cs'.length = ver') (hle : ver' ≤ p'.size) (hf : ∀ j, j < p'.size → (decide (fr.1 ≤ j) && decide (j < fr.2)) = false) (h1 : ∀ v ∈ A.toList, v.oneCell' = true)
    (hV : Vs G (A.toList.take ver') cs') (hp' : p'.cb = p.cb ∨ w.heap.size ≤ p'.cb) :
    S P (G.ver b ver' p') (h.set b (.row ver' cs')) w' ∧ Ext G h w (G.ver b ver' p') (h.set b (.row ver' cs')) w' := by
  obtain ⟨hb, hpl, _⟩ := row_at hS hr hp
  have hbl := (List.getElem?_eq_some_iff.1 hb).1
  have hnone := hS.fut b _ ver ver' hb rfl hv
  have hle' : G.le (G.ver b ver' p') := Rel.le_ver hnone
  have hplv : (G.ver b ver' p').pl b ver' = some p' := by simp [Rel.ver]
  refine hS.update b (.row ver' cs') hle' rfl (by simp [Rel.ver, hS.len]) (by simp [hbl]) (fun i o' hi ho' => by rwa [List.getElem?_set_ne (by omega)] at ho') (fun i hi _ => by rw [List.getElem?_set_ne (by omega)]) (by rw [hb]; simp) hw0 ht hos hout
    (fun cb hc hne => hw cb hc (hne p hpl)) ?_ (fun v ver2 hv' hlt => ?_) (fun i v hi _ => ?_) (fun v q hv' hq => ?_)
  · refine ⟨p', A, el, fr, hplv, hA, hsz, hl, hle, hf, h1, fun j c e => ?_⟩
    have hj : j < ver' := hl ▸ (List.getElem?_eq_some_iff.1 e).1
    refine ⟨A[j], by simp [Array.getElem?_eq_getElem (show j < A.size by omega)], ?_⟩
    have := hV.2 j A[j] c (by rw [List.getElem?_take, if_pos hj]; simp [Array.getElem?_eq_getElem (show j < A.size by omega)]) e
    exact this.mono hle'
  · simp [ABlk.ver] at hv'; subst hv'
    simp only [Rel.ver]
    rw [if_neg (by omega)]
    exact hS.fut b _ ver ver2 hb rfl (by omega)
  · simp only [Rel.ver]
    rw [if_neg (by omega)]
  · simp [ABlk.ver] at hv'; subst hv'
    rw [hplv] at hq; cases hq
    rcases hp' with h' | h'
    · exact .inl ⟨p, hpl, h'⟩
    · exact .inr h'

/-- What append comes to. -/
def Appended (P : Program) (G : Rel) (h : List ABlk) (w : World) (t tx ty : TypeId) (X Y : Value) (h' : List ABlk) (v : AVal) : Prop :=
  ∃ G' w' cv, (Builtin.append_ #[t, tx] ty #[X, Y]).run P w = .ok cv w' ∧ V G' cv v ∧ S P G' h' w' ∧ Ext G h w G' h' w'

section
variable {t tx el ty : TypeId} {i : TypeInfo} {zv : Value} {Y : Value} {n : Nat} {news : List Value} {new : List AVal} {X : Value} {x : AVal}

theorem grow_zero (hS : S P G st.h w) (ht : P.underlying t = some (.slice el)) (hi : P.info? el = some i) (hY : Yields P i zv tx Y 0 news w) (hX : V G X x)
    (hx : x = .nilSlice ∨ (∃ a b c, x = .islice a b c) ∨ ∃ a b c d e f g, x = .mslice a b c d e f g) : Appended P G st.h w t tx ty X Y st.h x := by
  have hnews : news = [] := List.eq_nil_of_length_eq_zero (by have := hY.newsLen; omega)
  subst hnews
  have hX' := hX
  cases hX with
  | nilSlice => exact ⟨G, w, _, run_append_none' t tx ty el i zv ht hi none 0 0 Y hY (Nat.le_refl _), hX', hS, .refl _ _ _⟩
  | islice ad m cap full cells f k1 k2 k3 k4 => exact ⟨G, w, _, run_append_none' t tx ty el i zv ht hi (some ad) _ cap Y hY k1, hX', hS, .refl _ _ _⟩
  | mslice b ver off len size lb exact p ad cap k1 k2 k3 k4 k5 k6 k7 k8 k9 => exact ⟨G, w, _, run_append_none' t tx ty el i zv ht hi (some ad) _ cap Y hY k7, hX', hS, .refl _ _ _⟩
  | _ => simp at hx

theorem grow_nil (hS : S P G st.h w) (ht : P.underlying t = some (.slice el)) (hi : P.info? el = some i) (hz : i.zero = some zv) (hz1 : ∀ u ∈ zv.cells.toList, u.oneCell' = true) (hzs : zv.cells.size = i.size) (hb : 0 < i.bytes)
    (hY : Yields P i zv tx Y n news w) (hnew : Vs G news new) (hn : n ≠ 0) (hroom : n * i.bytes ≤ 140737488355328) : Appended P G st.h w t tx ty (.slice none 0 0) Y (newRowA st i.size n new).2.h (newRowA st i.size n new).1 := by
  obtain ⟨A, q1, q2, q3, q4, q5, q6⟩ := grown_V (ty := ty) hS ht hi hz hz1 hzs hb (base := none) (sLen := 0) (sCap := 0) (olds := []) (oldA := []) (.nil _) (by simp) (by simp) (by simp [Builtin.firstCells]) hY hnew (by omega) (by simpa using hroom)
  simp only [Nat.zero_add, List.nil_append] at q1 q2 q3 q4 q5
  obtain ⟨G', r1, r2, r3⟩ := grown_row (el := el) hS q2 q3 q4 q5 q6
  exact ⟨G', _, _, q1, r1, r2, r3⟩

theorem grow_old (hS : S P G st.h w) (ht : P.underlying t = some (.slice el)) (hi : P.info? el = some i) (hz : i.zero = some zv) (hz1 : ∀ u ∈ zv.cells.toList, u.oneCell' = true) (hzs : zv.cells.size = i.size) (hb : 0 < i.bytes)
    (hY : Yields P i zv tx Y n news w) (hnew : Vs G news new) {ad : Addr} {len cap : Nat} {cs : List AVal} (hR : Reads G w ad cs) (hl : cs.length = len * i.size) (hg : cap < len + n) (hroom : (len + n) * i.bytes ≤ 140737488355328) :
    Appended P G st.h w t tx ty (.slice (some ad) len cap) Y (newRowA st i.size (len + n) (cs ++ new)).2.h (newRowA st i.size (len + n) (cs ++ new)).1 := by
  obtain ⟨vs, v1, v2, v3⟩ := hR.vals
  obtain ⟨A, q1, q2, q3, q4, q5, q6⟩ := grown_V (ty := ty) hS ht hi hz hz1 hzs hb (base := some ad) (sLen := len) (sCap := cap) (olds := vs) (oldA := cs) v1 v2 hl (run_firstCells_some w.drew i.size len ad len cap vs (by rw [v1.1, hl]) (by simpa using v3)) hY hnew hg hroom
  obtain ⟨G', r1, r2, r3⟩ := grown_row (el := el) hS q2 q3 q4 q5 q6
  exact ⟨G', _, _, q1, r1, r2, r3⟩

theorem grow_room (hS : S P G st.h w) (ht : P.underlying t = some (.slice el)) (hi : P.info? el = some i)
    (hY : Yields P i zv tx Y n news w) (hnew : Vs G news new) {b ver off len lb cap : Nat} {exact : Bool} {cs : List AVal} {p : Place} (hrow : row? st.h b ver = some cs) (k1 : b < G.n) (k2 : G.pl b ver = some p) (k6 : lb ≤ cap) (k8 : exact = true → cap = lb) (k9 : off + cap * i.size ≤ p.size) (hlb : off + lb * i.size ≤ ver) (hle : len + n ≤ lb) :
    Appended P G st.h w t tx ty (.slice (some ⟨p.cb, off, none⟩) len cap) Y (st.setRow b ver (putCells cs (off + len * i.size) new)).h (.mslice b ver off (len + n) i.size lb exact) := by
  have hnl : new.length = n * i.size := by rw [← hnew.1, hY.newsLen]
  obtain ⟨hbrow, hpl, arr, el', fr, r1, r2, r3, r4, r5, r6, r7⟩ := row_at hS hrow k2
  have hnn : (len + n) * i.size ≤ lb * i.size := Nat.mul_le_mul_right _ hle
  have hcc : lb * i.size ≤ cap * i.size := Nat.mul_le_mul_right _ k6
  have hadd : (len + n) * i.size = len * i.size + n * i.size := Nat.add_mul _ _ _
  have hrc := row_cells hS hrow k2
  have hrun := run_append_room' t tx ty el i zv ht hi p.cb off len cap Y n news hY (by omega) (fun j hj => (hrc _ (by rw [hY.newsLen] at hj; omega)).1) (fun j hj => (hrc _ (by rw [hY.newsLen] at hj; omega)).2)
  obtain ⟨s1, s2⟩ := hS.write hrow k2 hnew hY.one (off + len * i.size) (by omega)
  exact ⟨G, _, _, hrun, .mslice b ver off _ _ lb _ p _ cap k1 k2 rfl rfl (.inr rfl) k6 (by omega) k8 k9, s1, s2⟩

theorem grow_open_room (hS : S P G st.h w) (ht : P.underlying t = some (.slice el)) (hi : P.info? el = some i) (hsz : 0 < i.size)
    (hY : Yields P i zv tx Y n news w) (hnew : Vs G news new) {b ver len lb cap : Nat} {cs : List AVal} {p : Place} (hrow : row? st.h b ver = some cs) (k1 : b < G.n) (k2 : G.pl b ver = some p) (k9 : cap * i.size ≤ p.size) (hver : lb * i.size = ver) (hlen : len ≤ lb) (hle : lb < len + n) (hcap : len + n ≤ cap) :
    Appended P G st.h w t tx ty (.slice (some ⟨p.cb, 0, none⟩) len cap) Y (st.setRow b ((len + n) * i.size) (cs.take (len * i.size) ++ new)).h (.mslice b ((len + n) * i.size) 0 (len + n) i.size (len + n) false) := by
  have hnl : new.length = n * i.size := by rw [← hnew.1, hY.newsLen]
  obtain ⟨hbrow, hpl, arr, el', fr, r1, r2, r3, r4, r5, r6, r7⟩ := row_at hS hrow k2
  have hlt : ver < (len + n) * i.size := by
    rw [← hver]
    exact Nat.mul_lt_mul_of_pos_right hle hsz
  have hlsz : len * i.size ≤ lb * i.size := Nat.mul_le_mul_right _ hlen
  have hl2 : (cs.take (len * i.size)).length = len * i.size := by rw [List.length_take]; omega
  have hadd : (len + n) * i.size = len * i.size + n * i.size := Nat.add_mul _ _ _
  have hlen' : (cs.take (len * i.size) ++ new).length = (len + n) * i.size := by rw [List.length_append, hl2, hnl, hadd]
  have hcc2 : (len + n) * i.size ≤ cap * i.size := Nat.mul_le_mul_right _ hcap
  have hrc := row_cells hS hrow k2
  have hrun := run_append_room' t tx ty el i zv ht hi p.cb 0 len cap Y n news hY hcap (fun j hj => (hrc _ (by rw [hY.newsLen] at hj; omega)).1) (fun j hj => (hrc _ (by rw [hY.newsLen] at hj; omega)).2)
  rw [Nat.zero_add] at hrun
  rw [setCells_heap news _ w arr r1] at hrun
  have hg := (Array.getElem?_eq_some_iff.1 r1).1
  have hnsz := hY.newsLen
  have hVn : Vs G ((putArr arr (len * i.size) news).toList.take ((len + n) * i.size)) (cs.take (len * i.size) ++ new) := by
    refine ⟨by rw [hlen', List.length_take, Array.length_toList, putArr_size]; omega, fun j u c e1 e2 => ?_⟩
    rw [List.getElem?_take] at e1
    split at e1
    · rw [Array.getElem?_toList, putArr_get _ _ _ _ (by omega), hnsz] at e1
      by_cases hj : j < len * i.size
      · rw [if_neg (by omega)] at e1
        rw [List.getElem?_append_left (by omega), List.getElem?_take, if_pos hj] at e2
        obtain ⟨u', q1, q2⟩ := r7 j c e2
        rw [q1] at e1; cases e1
        exact q2
      · rw [if_pos (by omega)] at e1
        rw [List.getElem?_append_right (by omega), hl2] at e2
        exact hnew.2 _ u c e1 e2
    · cases e1
  obtain ⟨s1, s2⟩ := hS.lengthen (w' := { w with heap := w.heap.setIfInBounds p.cb (.cells (putArr arr (len * i.size) news) el' fr) }) (p' := p) (A := putArr arr (len * i.size) news) (el := el') (fr := fr) (cs' := cs.take (len * i.size) ++ new) hrow k2 hlt (by simp) rfl rfl rfl
    (fun cb hc hne => by simp [Array.getElem?_setIfInBounds_ne hne]) (by simp [hg]) (by rw [putArr_size, r2]) hlen' (by omega) r5 (putArr_one r6 hY.one _ (by omega)) hVn (.inl rfl)
  refine ⟨G.ver b ((len + n) * i.size) p, _, _, hrun, .mslice b _ 0 _ _ _ _ p _ cap k1 (by simp [Rel.ver]) rfl rfl (.inr rfl) hcap hcap (by simp) (by omega), s1, s2⟩

theorem grow_open_new (hS : S P G st.h w) (ht : P.underlying t = some (.slice el)) (hi : P.info? el = some i) (hz : i.zero = some zv) (hz1 : ∀ u ∈ zv.cells.toList, u.oneCell' = true) (hzs : zv.cells.size = i.size) (hsz : 0 < i.size) (hb : 0 < i.bytes)
    (hY : Yields P i zv tx Y n news w) (hnew : Vs G news new) {b ver len lb cap : Nat} {cs : List AVal} {p : Place} (hrow : row? st.h b ver = some cs) (k1 : b < G.n) (k2 : G.pl b ver = some p) (hver : lb * i.size = ver) (hle : lb < len + n) (hroom : (len + n) * i.bytes ≤ 140737488355328)
    {ad : Addr} (hR : Reads G w ad (cs.take (len * i.size))) (hl : (cs.take (len * i.size)).length = len * i.size) (hcap : cap < len + n) :
    Appended P G st.h w t tx ty (.slice (some ad) len cap) Y (st.setRow b ((len + n) * i.size) (cs.take (len * i.size) ++ new)).h (.mslice b ((len + n) * i.size) 0 (len + n) i.size (len + n) false) := by
  have hlt : ver < (len + n) * i.size := by
    rw [← hver]
    exact Nat.mul_lt_mul_of_pos_right hle hsz
  obtain ⟨vs, v1, v2, v3⟩ := hR.vals
  obtain ⟨A, q1, q2, q3, q4, q5, q6⟩ := grown_V (ty := ty) hS ht hi hz hz1 hzs hb (base := some ad) (sLen := len) (sCap := cap) (olds := vs) v1 v2 hl (run_firstCells_some w.drew i.size len ad len cap vs (by rw [v1.1, hl]) (by simpa using v3)) hY hnew hcap hroom
  obtain ⟨s1, s2⟩ := hS.lengthen (w' := w.drew.alloc (.cells A el)) (p' := ⟨w.heap.size, A.size⟩) (A := A) (el := el) (fr := (0, 0)) (cs' := cs.take (len * i.size) ++ new) hrow k2 hlt ((Same.drew w).trans (Same.alloc _ (.cells A el))).size rfl rfl rfl
    (fun cb hc hne => ((Same.drew w).trans (Same.alloc _ (.cells A el))).old cb hc) (alloc_at w.drew _) rfl q4 (by simp only [q2]; exact Nat.mul_le_mul_right _ q3) (fun j hj => by simp) q6 q5 (.inr (Nat.le_refl _))
  exact ⟨G.ver b ((len + n) * i.size) ⟨w.heap.size, A.size⟩, _, _, q1, .mslice b _ 0 _ _ _ _ ⟨w.heap.size, A.size⟩ ⟨w.heap.size, 0, none⟩ _ k1 (by simp [Rel.ver]) rfl rfl (.inr rfl) q3 q3 (by simp) (by simp only [q2]; omega), s1, s2⟩

theorem grow_V (hS : S P G st.h w) (ht : P.underlying t = some (.slice el)) (hi : P.info? el = some i) (hz : i.zero = some zv) (hz1 : ∀ u ∈ zv.cells.toList, u.oneCell' = true) (hzs : zv.cells.size = i.size) (hsz : 0 < i.size) (hb : 0 < i.bytes)
    (hY : Yields P i zv tx Y n news w) (hnew : Vs G news new) (hX : V G X x) (h : grow st i.bytes i.size x new n = some (v, st')) : Appended P G st.h w t tx ty X Y st'.h v := by
  unfold grow at h
  split at h
  · rename_i hn; subst hn
    split at h
    · cases h; exact grow_zero hS ht hi hY hX (.inl rfl)
    · cases h; exact grow_zero hS ht hi hY hX (.inr (.inl ⟨_, _, _, rfl⟩))
    · cases h; exact grow_zero hS ht hi hY hX (.inr (.inr ⟨_, _, _, _, _, _, _, rfl⟩))
    · cases h
  · rename_i hn
    split at h
    · split at h
      · rename_i hroom
        cases h
        cases hX
        exact grow_nil hS ht hi hz hz1 hzs hb hY hnew hn hroom
      · cases h
    · rename_i m cs
      split at h
      · rename_i hc
        obtain ⟨hlen, hroom⟩ := hc
        cases h
        have := sliceCells_reads (cs := cs) hS (size := i.size) hX (by simp [sliceCells, hlen])
        obtain ⟨ad, len', cap, hXe, hl', hR, hl2⟩ := this.resolve_left (by rintro ⟨_, hbad, _⟩; cases hbad)
        simp only [sliceLen, Option.some.injEq] at hl'
        subst hl'
        have hcap : cap = m := by
          cases hX with
          | islice ad2 _ cap2 _ _ f k1 k2 k3 k4 => cases hXe; exact k2 rfl
        subst hXe hcap
        exact grow_old hS ht hi hz hz1 hzs hb hY hnew hR hlen (by omega) hroom
      · cases h
    · rename_i b ver off len sz lb exact
      split at h
      · cases h
      · rename_i cs hrow
        split at h
        · rename_i hc
          obtain ⟨rfl, hroom, hlb, hlenlb⟩ := hc
          have hlsz : len * i.size ≤ lb * i.size := Nat.mul_le_mul_right _ hlenlb
          have hXR := sliceCells_reads (cs := (cs.drop off).take (len * i.size)) hS (size := i.size) hX (by simp only [sliceCells, hrow]; rw [if_pos ⟨trivial, by omega⟩])
          obtain ⟨ad, len', cap, hXe, hl', hR, hl2⟩ := hXR.resolve_left (by rintro ⟨_, hbad, _⟩; cases hbad)
          simp only [sliceLen, Option.some.injEq] at hl'
          subst hl' hXe
          obtain ⟨p, k1, k2, k3, k4, k5, k6, k7, k8, k9⟩ : ∃ p, b < G.n ∧ G.pl b ver = some p ∧ ad.block = p.cb ∧ ad.spot = none ∧ (cap = 0 ∨ ad.off = off) ∧ lb ≤ cap ∧ len ≤ cap ∧ (exact = true → cap = lb) ∧ off + cap * i.size ≤ p.size := by
            cases hX with
            | mslice _ _ _ _ _ _ _ p ad2 cap2 k1 k2 k3 k4 k5 k6 k7 k8 k9 => exact ⟨p, k1, k2, k3, k4, k5, k6, k7, k8, k9⟩
          have had : 0 < cap → ad = ⟨p.cb, off, none⟩ := by
            intro hc0
            rcases k5 with hz | ho'
            · omega
            · obtain ⟨q1, q2, q3⟩ := ad; simp_all
          split at h
          · rename_i hle
            cases h
            have had' := had (by omega)
            subst had'
            exact grow_room hS ht hi hY hnew hrow k1 k2 k6 k8 k9 hlb hle
          · rename_i hle
            split at h
            · rename_i hex
              cases h
              have hcap := k8 hex
              exact grow_old hS ht hi hz hz1 hzs hb hY hnew hR hl2 (by omega) hroom
            · split at h
              · rename_i hex hcc
                obtain ⟨rfl, hver⟩ := hcc
                cases h
                have htake : ((cs.drop 0).take (len * i.size)) = cs.take (len * i.size) := by simp
                rw [htake] at hR hl2
                by_cases hcap : len + n ≤ cap
                · have had' := had (by omega)
                  subst had'
                  exact grow_open_room hS ht hi hsz hY hnew hrow k1 k2 (by omega) hver hlenlb (by omega) hcap
                · exact grow_open_new hS ht hi hz hz1 hzs hsz hb hY hnew hrow k1 k2 hver (by omega) hroom hR hl2 (by omega)
              · cases h
        · cases h
    · cases h

end

end Go.Shadow

namespace Go.Shadow
open Go

variable {P : Program} {C : Ctx} {G : Rel} {e : Env} {a : Act} {st st' : St} {w : World} {v : AVal} {o : Oper}

theorem byteCells_Vs (G : Rel) (s : ByteArray) : Vs G (byteCells s) (s.data.toList.map fun (b : UInt8) => AVal.int .u8 b.toNat) := byteCells_V G s

theorem yields_string {i : TypeInfo} {zv : Value} {tx : TypeId} (s : ByteArray) (hk : (∃ e', P.underlying tx = some (.slice e')) ∨ P.underlying tx = some .string) (h1 : i.size = 1) : Yields P i zv tx (.string s) s.size (byteCells s) w where
  kind := .inl ⟨hk, fun _ => rfl, by rw [h1]; exact firstCells_string s w, by rw [h1]; exact firstCells_string s w.drew⟩
  newsLen := by rw [byteCells_length, h1, Nat.mul_one]
  one := fun u hu => by
    obtain ⟨_, _, rfl⟩ := List.mem_map.1 hu
    rfl

theorem yields_slice {i : TypeInfo} {zv : Value} {tx : TypeId} {ad : Addr} {n c : Nat} {cs : List AVal} (hR : Reads G w ad cs) (hl : cs.length = n * i.size) (hk : (∃ e', P.underlying tx = some (.slice e')) ∨ P.underlying tx = some .string) :
    ∃ news, Yields P i zv tx (.slice (some ad) n c) n news w ∧ Vs G news cs := by
  obtain ⟨vs, v1, v2, v3⟩ := hR.vals
  exact ⟨vs, ⟨.inl ⟨hk, fun _ => rfl, run_firstCells_some w i.size n ad n c vs (by rw [v1.1, hl]) v3, run_firstCells_some w.drew i.size n ad n c vs (by rw [v1.1, hl]) (by simpa using v3)⟩, by rw [v1.1, hl], v2⟩, v1⟩

theorem yields_nil {i : TypeInfo} {zv : Value} {tx : TypeId} (hk : (∃ e', P.underlying tx = some (.slice e')) ∨ P.underlying tx = some .string) : Yields P i zv tx (.slice none 0 0) 0 [] w :=
  ⟨.inl ⟨hk, fun _ => rfl, run_firstCells_none w i.size 0 0 0, run_firstCells_none w.drew i.size 0 0 0⟩, by simp, by simp⟩

theorem so_appended {c : Call} (ho : o.op = .call c) (hc : c.callee = .builtin .append) {x y : Operand} (hxy : c.args.toList = [x, y]) {t tx : TypeId} (h0 : c.argTypes[0]? = some t) (h1 : c.argTypes[1]? = some tx)
    (h : Appended P G st.h w t tx o.type (a.eval x) (a.eval y) st'.h v) : Out P G st.h w ((execOp a.eval o).run P w) st'.h v := by
  obtain ⟨G', w', cv, q1, q2, q3, q4⟩ := h
  refine ⟨G', w', cv, .inl ?_, q2, q3, q4⟩
  rw [run_builtin ho hc, args_two hxy]
  have := append_types h0 h1 o.type #[a.eval x, a.eval y]
  simp [builtin, this, q1]

theorem so_append (hS : S P G st.h w) (he : EnvRel G e a.tmps) (hg : GlobOk C G) {c : Call} {x' y' : Oprd} (ho : o.op = .call c) (hc : c.callee = .builtin .append) (ha : cOprs c.args.toList = some [x', y']) {t tx el : TypeId} {i : TypeInfo} {z : List AVal}
    (h0 : c.argTypes[0]? = some t) (h1 : c.argTypes[1]? = some tx) (ht : P.underlying t = some (.slice el)) (hk : (∃ e', P.underlying tx = some (.slice e')) ∨ P.underlying tx = some .string) (hi : P.info? el = some i) (hz : zeroCellsOf P el = some z) (hzl : z.length = i.size) (hsz : 0 < i.size) (hb : 0 < i.bytes)
    (h : stepOp C e (.append i.bytes i.size x' y') st = some (v, st')) : Out P G st.h w ((execOp a.eval o).run P w) st'.h v := by
  obtain ⟨x, y, hxy, hx, hy⟩ := cOprs_two ha
  obtain ⟨i', zv, hi', hz', hV, hone⟩ := zeroCells_inv hz
  rw [hi] at hi'; cases hi'
  have hzs : zv.cells.size = i.size := by have := (hV G).1; rw [← hzl]; simpa using this
  refine so_appended ho hc hxy h0 h1 ?_
  simp only [stepOp] at h
  split at h
  · rename_i u s hu hs
    split at h
    · cases h
    · rename_i h1'
      have h1' : i.size = 1 := by simpa using h1'
      have hX := evO_V he hg hx hu
      have hY := evO_V he hg hy hs
      generalize a.eval y = Y at hY
      cases hY with
      | str s' =>
        have hl : s'.data.toList.length = s'.size := rfl
        rw [hl] at h
        exact grow_V hS ht hi hz' hone hzs hsz hb (yields_string s' hk h1') (byteCells_Vs G s') hX h
  · rename_i u b hns hu hb'
    split at h
    · rename_i cs n hcs hn
      have hX := evO_V he hg hx hu
      have hY := evO_V he hg hy hb'
      rcases sliceCells_reads hS hY hcs with ⟨hYe, rfl, rfl⟩ | ⟨ad, len, cap, hYe, hl, hR, hlen⟩
      · cases hn
        rw [hYe]
        exact grow_V hS ht hi hz' hone hzs hsz hb (yields_nil hk) (.nil _) hX h
      · rw [hn] at hl; cases hl
        rw [hYe]
        obtain ⟨news, q1, q2⟩ := yields_slice (zv := zv) (c := cap) hR hlen hk
        exact grow_V hS ht hi hz' hone hzs hsz hb q1 q2 hX h
    · cases h
  · cases h

theorem zeroCells_V {zs : Array Value} {z : List AVal} (h : Vs G zs.toList z) (n : Nat) (hz : 0 < z.length) : Vs G (Builtin.zeroCells zs n).toList (replicateCells n z) := by
  have hsz : zs.size = z.length := by simpa using h.1
  have : Builtin.zeroCells zs n = madeCells zs (n * z.length) := by unfold Builtin.zeroCells madeCells; rw [hsz]
  rw [this]
  exact madeCells_V h n hz

theorem so_appendZeros (hS : S P G st.h w) (he : EnvRel G e a.tmps) (hg : GlobOk C G) {c : Call} {x' y' : Oprd} (ho : o.op = .call c) (hc : c.callee = .builtin .append) (ha : cOprs c.args.toList = some [x', y']) {t tx el : TypeId} {i : TypeInfo} {z : List AVal} {k : IntKind}
    (h0 : c.argTypes[0]? = some t) (h1 : c.argTypes[1]? = some tx) (ht : P.underlying t = some (.slice el)) (hk : P.underlying tx = some (.int k)) (hi : P.info? el = some i) (hz : zeroCellsOf P el = some z) (hzl : z.length = i.size) (hsz : 0 < i.size) (hb : 0 < i.bytes)
    (h : stepOp C e (.appendZeros i.bytes i.size z x' y') st = some (v, st')) : Out P G st.h w ((execOp a.eval o).run P w) st'.h v := by
  obtain ⟨x, y, hxy, hx, hy⟩ := cOprs_two ha
  obtain ⟨i', zv, hi', hz', hV, hone⟩ := zeroCells_inv hz
  rw [hi] at hi'; cases hi'
  have hzs : zv.cells.size = i.size := by have := (hV G).1; rw [← hzl]; simpa using this
  refine so_appended ho hc hxy h0 h1 ?_
  simp only [stepOp] at h
  split at h
  · rename_i u k' m hu hm
    split at h
    · rename_i hm0
      obtain ⟨hm0, hsm⟩ := hm0
      · have hX := evO_V he hg hx hu
        have hY := asInt_V (evO_V he hg hy hm)
        have hmn : m = (m.toNat : Int) := by omega
        have hnews : Yields P i zv tx (a.eval y) m.toNat (Builtin.zeroCells zv.cells m.toNat).toList w := by
          refine ⟨.inr ⟨⟨k, hk⟩, ⟨k', by rw [hY, ← hmn]⟩, hsm, ?_, rfl, hz'⟩, by rw [Array.length_toList, size_zeroCells, hzs], zeroCells_one hone _⟩
          have := room_63 (n := m.toNat) (b := i.bytes) hsm hb
          omega
        exact grow_V hS ht hi hz' hone hzs hsz hb hnews (zeroCells_V (hV G) _ (by omega)) hX h
    · cases h
  · cases h

/-! ### copy -/

theorem first_cells {size n k : Nat} {ad : Addr} {c : Nat} {cs : List AVal} (hR : Reads G w ad cs) (hl : cs.length = n * size) (hk : k ≤ n) :
    ∃ news : List Value, (Builtin.firstCells size k (.slice (some ad) n c)).run P w = .ok news.toArray w ∧ Vs G news (cs.take (k * size)) ∧ ∀ u ∈ news, u.oneCell' = true := by
  have hks : k * size ≤ n * size := Nat.mul_le_mul_right _ hk
  obtain ⟨vs, v1, v2, v3⟩ := (hR.take (k * size)).vals
  have hlen : vs.length = k * size := by rw [v1.1, List.length_take]; omega
  exact ⟨vs, run_firstCells_some w size k ad n c vs hlen v3, v1, v2⟩

theorem first_bytes (s : ByteArray) (k : Nat) (hk : k ≤ s.size) : (Builtin.firstCells 1 k (.string s)).run P w = .ok ((byteCells s).take k).toArray w := by
  simp only [Builtin.firstCells, Sem.run_pure]
  congr 1
  apply Array.ext'
  simp [byteCells, Lib.extract_data, List.map_take]

theorem so_copy (hS : S P G st.h w) (he : EnvRel G e a.tmps) (hg : GlobOk C G) {c : Call} {x' y' : Oprd} (ho : o.op = .call c) (hc : c.callee = .builtin .copy) (ha : cOprs c.args.toList = some [x', y']) {t el : TypeId} {i : TypeInfo}
    (h0 : c.argTypes[0]? = some t) (ht : P.underlying t = some (.slice el)) (hi : P.info? el = some i)
    (h : stepOp C e (.copy i.size x' y') st = some (v, st')) : Out P G st.h w ((execOp a.eval o).run P w) st'.h v := by
  obtain ⟨x, y, hxy, hx, hy⟩ := cOprs_two ha
  simp only [stepOp] at h
  split at h
  · rename_i dv sv hd hs
    have hX := evO_V he hg hx hd
    have hY := evO_V he hg hy hs
    split at h
    · rename_i cs n m hsrc hdl
      -- what is read
      have hsrc' : (∀ w', (Builtin.lenOf (a.eval y)).run P w' = .ok n w') ∧ ∀ k, k ≤ n → ∃ news : List Value, (Builtin.firstCells i.size k (a.eval y)).run P w = .ok news.toArray w ∧ Vs G news (cs.take (k * i.size)) ∧ ∀ u ∈ news, u.oneCell' = true := by
        split at hsrc
        · rename_i s
          split at hsrc
          · cases hsrc
          · rename_i h1
            have h1 : i.size = 1 := by simpa using h1
            cases hsrc
            generalize a.eval y = Y at hY
            cases hY with
            | str s' =>
              have hl : s'.data.toList.length = s'.size := rfl
              refine ⟨fun _ => rfl, fun k hk => ⟨(byteCells s').take k, ?_, ?_, ?_⟩⟩
              · rw [h1]; exact first_bytes s' k (by omega)
              · rw [h1, Nat.mul_one]; exact (byteCells_Vs G s').take k
              · intro u hu
                obtain ⟨_, _, rfl⟩ := List.mem_map.1 (List.mem_of_mem_take hu)
                rfl
        · split at hsrc
          · rename_i cs' n' hcs hn
            cases hsrc
            rcases sliceCells_reads hS hY hcs with ⟨hYe, rfl, rfl⟩ | ⟨ad, len, cap, hYe, hl, hR, hlen⟩
            · cases hn
              rw [hYe]
              exact ⟨fun _ => rfl, fun k hk => ⟨[], by simp [Builtin.firstCells], by simpa using Vs.nil G, by simp⟩⟩
            · rw [hn] at hl; cases hl
              rw [hYe]
              exact ⟨fun _ => rfl, fun k hk => first_cells hR hlen hk⟩
          · cases hsrc
      obtain ⟨hlen, hcells⟩ := hsrc'
      have hrun : ∀ (base : Option Addr) (cap : Nat) (w' : World) (news : List Value), a.eval x = .slice base m cap → (Builtin.firstCells i.size (Nat.min n m) (a.eval y)).run P w = .ok news.toArray w →
          ((match (generalizing := false) base with | some ad => storeCells ad news | none => pure () : Sem Unit)).run P w = .ok () w' → (execOp a.eval o).run P w = .ok (.value (.int .i64 (Nat.min n m))) w' := by
        intro base cap w' news hxe hfc hst
        have hcp : (Builtin.copy_ c.argTypes o.type #[a.eval x, a.eval y]).run P w = .ok (.int .i64 (Nat.min n m)) w' := by
          cases base with
          | none => simp only [Sem.run_pure] at hst; cases hst; simp [Builtin.copy_, h0, hxe, run_underlying ht, hlen, sizeOf, typeInfo, hi, hfc, goInt]
          | some ad => simp only at hst; simp [Builtin.copy_, h0, hxe, run_underlying ht, hlen, sizeOf, typeInfo, hi, hfc, goInt, hst]
        rw [run_builtin ho hc, args_two hxy]
        simp [builtin, hcp]
      have hdst : ∃ base cap, a.eval x = .slice base m cap := by
        generalize a.eval x = X at hX
        cases hX <;> simp [lenA] at hdl
        · subst hdl; exact ⟨_, _, rfl⟩
        · subst hdl; exact ⟨_, _, rfl⟩
        · subst hdl; exact ⟨_, _, rfl⟩
      obtain ⟨base, cap, hxe⟩ := hdst
      split at h
      · rename_i hk0
        cases h
        obtain ⟨news, q1, q2, q3⟩ := hcells (Nat.min n m) (Nat.min_le_left _ _)
        have : news = [] := by
          refine List.eq_nil_of_length_eq_zero ?_
          rw [q2.1, hk0]; simp
        subst this
        have := hrun base cap w [] hxe q1 (by cases base <;> rfl)
        rw [hk0] at this
        exact .same hS this (.int _ _)
      · rename_i hk0
        split at h
        · rename_i b ver off len sz lb ex
          split at h
          · rename_i row hrow
            split at h
            · rename_i hcond
              obtain ⟨rfl, hle⟩ := hcond
              cases h
              cases hdl
              obtain ⟨news, q1, q2, q3⟩ := hcells (Nat.min n m) (Nat.min_le_left _ _)
              rw [hxe] at hX
              cases hX with
              | mslice _ _ _ _ _ _ _ p ad cap k1 k2 k3 k4 k5 k6 k7 k8 k9 =>
                have hmin : Nat.min n m ≤ m := Nat.min_le_right _ _
                have had : ad = ⟨p.cb, off, none⟩ := by
                  rcases k5 with hz | ho'
                  · omega
                  · obtain ⟨r1, r2, r3⟩ := ad; simp_all
                subst had
                obtain ⟨_, _, arr, el', fr, r1, r2, r3, r4, _⟩ := row_at hS hrow k2
                have hnl : news.length ≤ Nat.min n m * i.size := by rw [q2.1]; simp; omega
                have hrc := row_cells hS hrow k2
                have hst := run_storeCells_cells (P := P) p.cb off news 0 w (fun j hj => (hrc _ (by omega)).1) (fun j hj => (hrc _ (by omega)).2) q3
                obtain ⟨s1, s2⟩ := hS.write hrow k2 q2 q3 off (by rw [← q2.1]; omega)
                exact ⟨G, _, _, .inl (hrun _ cap _ news hxe q1 hst), .int _ _, s1, s2⟩
            · cases h
          · cases h
        · cases h
    · cases h
  · cases h

end Go.Shadow

namespace Go.Shadow
open Go

variable {P : Program} {C : Ctx} {G : Rel} {e : Env} {a : Act} {st st' : St} {w : World} {v : AVal} {o : Oper}

/-! ### All operations that are no calls -/

theorem OutS.at_ {r : Result Next} {op : AOp} (ho : OutS P G w r v) (hS : S P G st.h w) (hk : op.kind = .reads) (h : stepOp C e op st = some (v, st')) : Out P G st.h w r st'.h v := by
  rw [stepOp_reads hk h]; exact ho.out hS

theorem cEq_V (hC : CtxOk P C) (hS : S P G st.h w) (he : EnvRel G e a.tmps) (hg : GlobOk C G) {neg : Bool} {t t' : TypeId} {x y : Operand} {op : AOp} (ho : o.op = .binOp (eqOp neg) t x y t') (hc : cEq P neg t x y = some op) (h : stepOp C e op st = some (v, st')) :
    Out P G st.h w ((execOp a.eval o).run P w) st'.h v := by
  unfold cEq at hc
  split at hc
  · rename_i x' y' h1 h2
    split at hc
    · cases hc; exact so_bin hS he hg ho h1 h2 h
    · cases hc; exact so_bin hS he hg ho h1 h2 h
    · rename_i hu; cases hc; exact so_eq1 hS he hg ho h1 h2 (k := .bool) hu (by simp) h
    · rename_i el hu; cases hc; exact so_eq1 hS he hg ho h1 h2 (k := .slice) ⟨el, hu⟩ (by simp) h
    · rename_i hu; cases hc; exact so_eq1 hS he hg ho h1 h2 (k := .func) ⟨_, _, _, hu⟩ (by simp) h
    · rename_i hu; cases hc; exact so_eq1 hS he hg ho h1 h2 (k := .map) ⟨_, _, hu⟩ (by simp) h
    · rename_i el hu
      split at hc
      · cases hc
      · rename_i hne; cases hc; exact so_eq1 hS he hg ho h1 h2 (k := .ptr) ⟨el, hu, hne⟩ (by simp) h
    · rename_i ms hu
      split at hc
      · cases hc; exact so_eq1 hS he hg ho h1 h2 (k := .iface) ⟨ms, hu⟩ (fun _ => .inl rfl) h
      · cases hc; exact so_eq1 hS he hg ho h1 h2 (k := .iface) ⟨ms, hu⟩ (fun _ => .inr rfl) h
      · cases hc; exact so_eqI hC hS he hg ho h1 h2 hu h
    · rename_i fs hu
      split at hc
      · cases hc
      · rename_i hgt
        split at hc
        · rename_i ks hk
          cases hc; exact so_eqAgg hS he hg ho h1 h2 hu (by simpa using hgt) hk h
        · cases hc
    · cases hc
  · cases hc

theorem bind_two {α β : Type} {x : Option α} {f : α → Option β} {b : β} (h : x.bind f = some b) : ∃ a, x = some a ∧ f a = some b := by
  cases x with
  | none => simp at h
  | some a => exact ⟨a, rfl, h⟩

theorem elemOfSlice_inv {t : TypeId} {i : TypeInfo} {el : TypeId} (h : elemOfSlice P t = some (i, el)) : P.underlying t = some (.slice el) ∧ P.info? el = some i := by
  unfold elemOfSlice at h
  split at h
  · rename_i e' hu
    simp only [Option.map_eq_some_iff] at h
    obtain ⟨j, hj, h⟩ := h
    cases h
    exact ⟨hu, hj⟩
  · cases h

def AOp.isCall : AOp → Bool
  | .call .. | .callv .. | .invoke .. => true
  | _ => false

theorem cConv_V (hS : S P G st.h w) (he : EnvRel G e a.tmps) (hg : GlobOk C G) {s d : TypeId} {x : Operand} {x' : Oprd} {op : AOp} (ho : o.op = .convert s d x) (h1 : cOpr x = some x') (hc : cConv P s d x' = some op) (h : stepOp C e op st = some (v, st')) :
    Out P G st.h w ((execOp a.eval o).run P w) st'.h v := by
  unfold cConv at hc
  split at hc
  · rename_i j k hs hd; cases hc; exact so_convInt hS he hg ho h1 hs hd h
  · rename_i j hs hd; cases hc; exact so_intStr hS he hg ho h1 hs hd h
  · rename_i hs hd; cases hc; exact so_strStr' hS he hg ho h1 hs hd h
  · rename_i el hs hd
    split at hc
    · rename_i hel; cases hc; exact so_strBytes hS he hg ho h1 hs hd hel h
    · rename_i hel; cases hc; exact so_strRunes hS he hg ho h1 hs hd hel h
    · cases hc
  · rename_i el hs hd
    split at hc
    · rename_i hel; cases hc; exact (so_bytesStr hS he hg ho h1 hs hel hd h).at_ hS rfl h
    · cases hc
  · cases hc

theorem cCall_V (hS : S P G st.h w) (he : EnvRel G e a.tmps) (hg : GlobOk C G) {c : Call} {op : AOp} (ho : o.op = .call c) (hc : cCall P c = some op) (hn : op.isCall = false) (h : stepOp C e op st = some (v, st')) :
    Out P G st.h w ((execOp a.eval o).run P w) st'.h v := by
  unfold cCall at hc
  split at hc
  · cases hc
  · rename_i args ha
    split at hc
    · cases hc; simp [AOp.isCall] at hn
    · simp only [Option.map_eq_some_iff] at hc
      obtain ⟨y, hy, rfl⟩ := hc; simp [AOp.isCall] at hn
    · simp only [Option.map_eq_some_iff] at hc
      obtain ⟨y, hy, rfl⟩ := hc; simp [AOp.isCall] at hn
    · rename_i b hcal
      split at hc
      · -- len
        have hconst : ∀ (n : Nat), (∀ x, (Builtin.len_ c.argTypes o.type #[x]).run P w = .ok (.int .i64 n) w) → op = .const (.int .i64 n) → Out P G st.h w ((execOp a.eval o).run P w) st'.h v := by
          intro n hr hop
          subst hop
          obtain ⟨x, hx, hcx⟩ := cOprs_one ha
          refine so_const hS ?_ (.int _ _) h
          rw [run_builtin ho hcal, args_one hx]
          simp [builtin, hr]
        split at hc
        · rename_i hb; obtain ⟨t, ht, hu⟩ := bind_two hb
          cases hc; exact (so_len hS he hg ho hcal ha ht (k := 0) hu h).at_ hS rfl h
        · rename_i hb; obtain ⟨t, ht, hu⟩ := bind_two hb
          cases hc; exact (so_len hS he hg ho hcal ha ht (k := 1) ⟨_, hu⟩ h).at_ hS rfl h
        · rename_i hb; obtain ⟨t, ht, hu⟩ := bind_two hb
          cases hc; exact (so_len hS he hg ho hcal ha ht (k := 2) ⟨_, _, hu⟩ h).at_ hS rfl h
        · rename_i n el hb; obtain ⟨t, ht, hu⟩ := bind_two hb
          cases hc; exact hconst n (fun x => by simp [Builtin.len_, ht, run_underlying hu, goInt]) rfl
        · rename_i arr hb; obtain ⟨t, ht, hu⟩ := bind_two hb
          split at hc
          · rename_i n el hu2
            cases hc; exact hconst n (fun x => by simp [Builtin.len_, ht, run_underlying hu, run_underlying hu2, goInt]) rfl
          · cases hc
        · cases hc
      · -- cap
        split at hc
        · rename_i el hb; obtain ⟨t, ht, hu⟩ := bind_two hb
          cases hc; exact so_cap hS he hg ho hcal ha ht hu h
        · rename_i n el hb; obtain ⟨t, ht, hu⟩ := bind_two hb
          cases hc
          obtain ⟨x, hx, hcx⟩ := cOprs_one ha
          refine so_const hS ?_ (.int _ _) h
          rw [run_builtin ho hcal, args_one hx]
          simp [builtin, Builtin.cap_, ht, run_underlying hu, goInt]
        · cases hc
      · -- append
        split at hc
        · rename_i i el hb; obtain ⟨t, ht, hu⟩ := bind_two hb
          obtain ⟨hu, hi⟩ := elemOfSlice_inv hu
          split at hc
          · rename_i z hz
            split at hc
            · rename_i hsz
              obtain ⟨s1, s2, s3⟩ := hsz
              split at hc
              · rename_i el2 hb2; obtain ⟨t2, ht2, hu2⟩ := bind_two hb2
                cases hc; exact so_append hS he hg ho hcal ha ht ht2 hu (.inl ⟨_, hu2⟩) hi hz s1 s2 s3 h
              · rename_i hb2; obtain ⟨t2, ht2, hu2⟩ := bind_two hb2
                split at hc
                · cases hc; exact so_append hS he hg ho hcal ha ht ht2 hu (.inr hu2) hi hz s1 s2 s3 h
                · cases hc
              · rename_i k hb2; obtain ⟨t2, ht2, hu2⟩ := bind_two hb2
                cases hc; exact so_appendZeros hS he hg ho hcal ha ht ht2 hu hu2 hi hz s1 s2 s3 h
              · cases hc
            · cases hc
          · cases hc
        · cases hc
      · -- copy
        split at hc
        · rename_i i el hb; obtain ⟨t, ht, hu⟩ := bind_two hb
          obtain ⟨hu, hi⟩ := elemOfSlice_inv hu
          split at hc
          · cases hc; exact so_copy hS he hg ho hcal ha ht hu hi h
          · cases hc
        · cases hc
      · cases hc; exact so_max hS he hg ho hcal ha h
      · cases hc; exact so_min hS he hg ho hcal ha h
      · cases hc; simp [stepOp] at h
      · cases hc; simp [stepOp] at h
      · cases hc; simp [stepOp] at h
      · cases hc

theorem cOpt_none {x : Option Operand} (h : cOpt x = some none) : x = none := by
  cases x with
  | none => rfl
  | some o => simp [cOpt] at h

theorem so_op (hC : CtxOk P C) (hS : S P G st.h w) (he : EnvRel G e a.tmps) (hg : GlobOk C G) {op : AOp} (hc : cOp P o = some op) (hn : op.isCall = false) (h : stepOp C e op st = some (v, st')) :
    Out P G st.h w ((execOp a.eval o).run P w) st'.h v := by
  unfold cOp at hc
  split at hc
  · rename_i x ho
    simp only [Option.map_eq_some_iff] at hc
    obtain ⟨x', hx, rfl⟩ := hc
    exact so_mov hS he hg (.inl ho) hx h
  · rename_i x ho
    simp only [Option.map_eq_some_iff] at hc
    obtain ⟨x', hx, rfl⟩ := hc
    exact so_mov hS he hg (.inr ho) hx h
  · rename_i ho
    split at hc
    · rename_i h1 h2 h3; cases hc; exact so_pick hS he hg ho h1 h2 h3 h
    · cases hc
  · rename_i ho
    simp only [Option.map_eq_some_iff] at hc
    obtain ⟨z, hz, rfl⟩ := hc
    exact so_alloc hS ho hz h
  · rename_i ho
    simp only [Option.map_eq_some_iff] at hc
    obtain ⟨x', hx, rfl⟩ := hc
    exact so_box hS he hg ho hx h
  · rename_i t ps ho
    split at hc
    · rename_i z fs hz hu
      split at hc
      · rename_i hall
        simp only [Option.map_eq_some_iff] at hc
        obtain ⟨ys, hys, rfl⟩ := hc
        exact so_build hS he hg ho hz (.inl ⟨fs, hu, hall, hys⟩) h
      · cases hc
    · rename_i z n el hz hu
      split at hc
      · rename_i j hj
        simp only [Option.map_eq_some_iff] at hc
        obtain ⟨ys, hys, rfl⟩ := hc
        exact so_build hS he hg ho hz (.inr ⟨n, el, j, hu, hj, hys⟩) h
      · cases hc
    · cases hc
  · rename_i t n ps ho
    split at hc
    · rename_i j el hel
      obtain ⟨hu, hi⟩ := elemOfSlice_inv hel
      split at hc
      · rename_i z hz
        split at hc
        · rename_i hcond
          obtain ⟨c1, c2, c3⟩ := hcond
          simp only [Option.map_eq_some_iff] at hc
          obtain ⟨ys, hys, rfl⟩ := hc
          exact so_buildSlice hS he hg ho hu hi hz c1 c2 c3 hys h
        · cases hc
      · cases hc
    · cases hc
  · rename_i ho
    split at hc
    · rename_i n x hn' hx; cases hc; exact (so_load hS he hg ho hn' hx h).at_ hS rfl h
    · cases hc
  · rename_i ho
    split at hc
    · rename_i i x y hi hx hy; cases hc; exact so_store hS he hg ho hi hx hy h
    · cases hc
  · rename_i ho
    simp only [Option.map_eq_some_iff] at hc
    obtain ⟨x', hx, rfl⟩ := hc
    exact so_nilCheck hS he hg ho hx h
  · rename_i bop t x y t' ho
    unfold cBin at hc
    split at hc
    · exact cEq_V hC hS he hg (neg := false) ho hc h
    · exact cEq_V hC hS he hg (neg := true) ho hc h
    · split at hc
      · rename_i h1 h2; cases hc; exact so_bin hS he hg ho h1 h2 h
      · cases hc
  · rename_i ho
    simp only [Option.map_eq_some_iff] at hc
    obtain ⟨x', hx, rfl⟩ := hc
    exact so_un hS he hg ho hx h
  · rename_i ho
    obtain ⟨x', hx, hc⟩ := bind_two hc
    exact cConv_V hS he hg ho hx hc h
  · rename_i t x ho
    split at hc
    · cases hc
    · rename_i d hni hd
      simp only [Option.map_eq_some_iff] at hc
      obtain ⟨x', hx, rfl⟩ := hc
      exact so_mkIface hS he hg ho hx hd (fun m e => hni m (e ▸ rfl)) h
    · cases hc
  · rename_i ho
    split at hc
    · rename_i h1 h2; cases hc; exact so_mkFunc hS he hg ho h1 h2 h
    · cases hc
  · rename_i ho; cases hc; exact so_mkMap hS ho (.inl rfl) h
  · rename_i ho
    split at hc
    · rename_i hu; cases hc; exact so_mkMap hS ho (.inr ⟨_, _, _, _, rfl, hu⟩) h
    · cases hc
  · rename_i ho
    split at hc
    · rename_i j el hel
      obtain ⟨hu, hi⟩ := elemOfSlice_inv hel
      split at hc
      · rename_i z l c hz hl hcc
        split at hc
        · rename_i hcond
          obtain ⟨c1, c2, c3⟩ := hcond
          cases hc; exact so_mkSlice hS he hg ho hu hi hz c1 c2 hl hcc h
        · cases hc
      · cases hc
    · cases hc
  · rename_i t x lo hi' mx ho
    split at hc
    · rename_i x' lo' hi2 mx' h1 h2 h3 h4
      split at hc
      · rename_i hu
        split at hc
        · rename_i h4
          have := cOpt_none h4
          subst this
          cases hc; exact so_sliceStr hS he hg ho h1 h2 h3 hu h
        · cases hc
      · rename_i el hu
        simp only [Option.map_eq_some_iff] at hc
        obtain ⟨i, hi, rfl⟩ := hc
        exact so_slice hS he hg ho h1 h2 h3 h4 hu hi h
      · rename_i n el hu
        simp only [Option.map_eq_some_iff] at hc
        obtain ⟨i, hi, rfl⟩ := hc
        exact (so_sliceArr hS he hg ho h1 h2 h3 h4 hu hi h).at_ hS rfl h
      · cases hc
    · cases hc
  · rename_i ho
    split at hc
    · rename_i fs x' hu hx
      obtain ⟨fd, hf, hc⟩ := bind_two hc
      obtain ⟨i, hi, hc⟩ := bind_two hc
      split at hc
      · cases hc
      · rename_i hz; cases hc; exact so_fieldAddr hS he hg ho hx hu hf hi hz h
    · cases hc
  · rename_i ho
    split at hc
    · rename_i fs x' hu hx
      obtain ⟨fd, hf, hc⟩ := bind_two hc
      simp only [Option.map_eq_some_iff] at hc
      obtain ⟨n, hn', rfl⟩ := hc
      exact so_field hS he hg ho hx hu hf hn' h
    · cases hc
  · rename_i ho
    split at hc
    · rename_i el x' i' hu hx hix
      simp only [Option.map_eq_some_iff] at hc
      obtain ⟨i, hi, rfl⟩ := hc
      exact so_idxAddr hS he hg ho hx hix hu hi h
    · rename_i n el x' i' hu hx hix
      obtain ⟨i, hi, hc⟩ := bind_two hc
      split at hc
      · cases hc
      · cases hc; exact so_idxAddrArr hS he hg ho hx hix hu hi h
    · cases hc
  · rename_i ho
    split at hc
    · rename_i x' i' hu hx hix; cases hc; exact so_idxStr hS he hg ho hx hix hu h
    · rename_i n el x' i' hu hx hix
      split at hc
      · rename_i j ag hj hag; cases hc; exact so_idxArr hS he hg ho hx hix hu hj hag h
      · cases hc
    · cases hc
  · rename_i ho
    split at hc
    · rename_i key el m' k' hu hm hk
      split at hc
      · rename_i z hz
        simp only [Option.map_eq_some_iff] at hc
        obtain ⟨kn, hkn, rfl⟩ := hc
        exact (so_lookup hS he hg ho hu hm hk hz hkn h).at_ hS rfl h
      · cases hc
    · cases hc
  · rename_i ho
    split at hc
    · rename_i key el m' k' x' hu hm hk hx
      simp only [Option.map_eq_some_iff] at hc
      obtain ⟨kn, hkn, rfl⟩ := hc
      exact so_update hS he hg (.inl ho) hu hm hk hx hkn h
    · cases hc
  · rename_i ho
    split at hc
    · rename_i key el m' k' x' hu hm hk hx
      simp only [Option.map_eq_some_iff] at hc
      obtain ⟨kn, hkn, rfl⟩ := hc
      exact so_update hS he hg (.inr ho) hu hm hk hx hkn h
    · cases hc
  · rename_i ho
    split at hc
    · rename_i hu hx; cases hc; exact so_rangeStr hS he hg ho hu hx h
    · cases hc
  · rename_i ho
    simp only [Option.map_eq_some_iff] at hc
    obtain ⟨x', hx, rfl⟩ := hc
    exact so_nextStr hS he hg ho hx h
  · rename_i ho
    simp only [Option.map_eq_some_iff] at hc
    obtain ⟨x', hx, rfl⟩ := hc
    exact so_extract hS he hg ho hx h
  · rename_i ho
    exact cCall_V hS he hg ho hc hn h
  · cases hc; simp [stepOp] at h
  · cases hc

end Go.Shadow

namespace Go.Shadow
open Go

variable {P : Program} {C : Ctx} {G : Rel} {e : Env} {a : Act} {st st' : St} {w : World} {v : AVal} {o : Oper}

/-! ### Calls -/

/-- What a call comes to. -/
def Ret (P : Program) (G : Rel) (h : List ABlk) (w : World) (v : AVal) (h' : List ABlk) : Ending → World → Prop
  | .returned cv, w' => ∃ G', V G' cv v ∧ S P G' h' w' ∧ Ext G h w G' h' w'
  | _, _ => False

def CallOk (P : Program) (C : Ctx) (f : FuncId) (vals : Array Value) (w : World) (R : Ending → World → Prop) : Prop :=
  ((callFunc f vals).run P w = .ok (.enter f vals) w ∧ CallsIn Fence.wide 0 P f vals w R) ∨ (C.isPrim f = true ∧ ∃ cv w', (callFunc f vals).run P w = .ok (.value cv) w' ∧ R (.returned cv) w')

def YieldOk (P : Program) (l : Nat) (vals : Array Value) (w : World) (R : Ending → World → Prop) : Prop :=
  ∃ f tmps assign body, (Instr.yield l vals).run P w = .ok (.round l f tmps assign body) w ∧ RoundIn Fence.wide 0 P l f tmps assign body w R

def exitOf : AExit → Exit
  | .normal => .normal
  | .exit id => .exit id
  | .goto l => .goto l
  | .ret => .ret

def fence (ro : Option Nat) : Fence := { Fence.wide with round := ro }

/-- The marks of loops that a function's deferred calls bear: nothing was deferred. -/
structure Marks (G : Rel) (h : List ABlk) (w0 w : World) (ms : List Deferred) : Prop where
  each : ∀ d ∈ ms, ∃ r, d.target = .collected r ∧ w0.heap.size ≤ r ∧ w.heap[r]? = some (.deferred (some [])) ∧ ¬ Tracked G h r
  apart : ms.Pairwise fun d d' => ∀ r, d.target = .collected r → d'.target ≠ .collected r

/-- What a piece of code comes to. -/
def CodePost (P : Program) (G : Rel) (h : List ABlk) (w : World) (a : Act) (x : AExit) (e' : Env) (h' : List ABlk) (x' : Exit) (a' : Act) (w' : World) : Prop :=
  x' = exitOf x ∧ ∃ G', EnvRel G' e' a'.tmps ∧ S P G' h' w' ∧ Ext G h w G' h' w' ∧ (∃ ms, a'.defers = ms ++ a.defers ∧ Marks G' h' w w' ms) ∧ a'.tmps.size = a.tmps.size

/-- In a loop's round: its record is there. -/
def RoOk (G : Rel) (h : List ABlk) (ro : Option Nat) : Prop :=
  ∀ l, ro = some l → ∃ (b : Nat) (p : Place) (s : LState) (x : AExit) (env : Env) (ps : List Nat) (as bd : ACode), h[b]? = some (ABlk.loop s x env ps as bd) ∧ G.pl b 0 = some p ∧ p.cb = l

def wpLoop (F : Fence) (n : Nat) (P : Program) (c : Code) (Q : Exit → Act → World → Prop) (a : Act) (w : World) : Prop :=
  ∀ (b : Frame) (k : List Item) (cs : List Frame), b.roundOf = F.round → F.fn b.fn → F.room (cs.length + 1 + n) →
    ∃ e a' w', Q e a' w' ∧ ArrivesIn (Machine.fenced P F) P (lone (b.atR a (.code c :: .inLoop c :: k)) cs w) b k cs e a' w'

def wpScope (F : Fence) (n : Nat) (P : Program) (body rest : Code) (Q : Exit → Act → World → Prop) (a : Act) (w : World) : Prop :=
  ∀ (b : Frame) (k : List Item) (cs : List Frame), b.roundOf = F.round → F.fn b.fn → F.room (cs.length + 1 + n) →
    ∃ e a' w', Q e a' w' ∧ ArrivesIn (Machine.fenced P F) P (lone (b.atR a (.code rest :: .inScope body :: k)) cs w) b k cs e a' w'

structure EvOk (P : Program) (C : Ctx) (E : Ev) : Prop where
  dirty : EvDirty E
  call : ∀ f args st v st', E.call f args st = some (v, st') → ∀ G w (vals : Array Value), S P G st.h w → GlobOk C G → Vs G vals.toList args → CallOk P C f vals w (Ret P G st.h w v st'.h)
  yield : ∀ b args st v st', E.yield b args st = some (v, st') → ∀ G w (vals : Array Value) p, S P G st.h w → GlobOk C G → G.pl b 0 = some p → Vs G vals.toList args → YieldOk P p.cb vals w (Ret P G st.h w v st'.h)
  loop : ∀ N c ac live e st x e' st', CC P N c ac → E.code (.loop live ac) e st = some (x, e', st') → ∀ G w a ro, S P G st.h w → GlobOk C G → EnvRel G e a.tmps → N ≤ a.tmps.size → RoOk G st.h ro →
    wpLoop (fence ro) 0 P c (CodePost P G st.h w a x e' st'.h) a w
  scope : ∀ N c ac r ar live e st x e' st', CC P N c ac → CC P N r ar → E.code (.scope live ac ar) e st = some (x, e', st') → ∀ G w a ro, S P G st.h w → GlobOk C G → EnvRel G e a.tmps → N ≤ a.tmps.size → RoOk G st.h ro →
    wpScope (fence ro) 0 P c r (CodePost P G st.h w a x e' st'.h) a w

/-- What an operation comes to, a call or none. -/
def Upon (P : Program) (G : Rel) (h : List ABlk) (w : World) (r : Result Next) (h' : List ABlk) (v : AVal) : Prop :=
  Out P G h w r h' v ∨ (∃ f vals, r = .ok (.enter f vals) w ∧ CallsIn Fence.wide 0 P f vals w (Ret P G h w v h')) ∨
    ∃ l f tmps assign body, r = .ok (.round l f tmps assign body) w ∧ RoundIn Fence.wide 0 P l f tmps assign body w (Ret P G h w v h')

/-- Methods of dynamic types. -/
structure MethOk (P : Program) (C : Ctx) : Prop where
  plain : ∀ t name f, C.meth t name = some (f, none) → ∀ v w, (Go.method (P.types.size + Made.depth) t v name).run P w = .ok (f, v) w
  through : ∀ t name f n, C.meth t name = some (f, some n) → ∃ tt, aggOf P tt = some (some n) ∧ ∀ ad R w, (loadVar tt ad).run P w = .ok R w → (Go.method (P.types.size + Made.depth) t (.pointer (some ad)) name).run P w = .ok (f, R) w

theorem callFunc_upon {f : FuncId} {vals : Array Value} {h' : List ABlk} (h : CallOk P C f vals w (Ret P G st.h w v h')) : Upon P G st.h w ((callFunc f vals).run P w) h' v := by
  rcases h with ⟨h1, h2⟩ | ⟨_, cv, w', h1, G', q1, q2, q3⟩
  · exact .inr (.inl ⟨f, vals, h1, h2⟩)
  · exact .inl ⟨G', w', cv, .inl h1, q1, q2, q3⟩

theorem callMeth_V {E : Ev} (hE : EvOk P C E) (hM : MethOk P C) (hS : S P G st.h w) (hg : GlobOk C G) {recv : AVal} {R : Value} {name : String} {args : List AVal} {vals : Array Value} (hR : V G R recv) (hv : Vs G vals.toList args)
    (h : callMeth C E recv name args st = some (v, st')) : Upon P G st.h w ((callMethod R name vals).run P w) st'.h v := by
  unfold callMeth at h
  split at h
  · rename_i t x
    cases hR with
    | iface _ X _ hX =>
      split at h
      · rename_i f hm
        have hc := hE.call _ _ _ _ _ h G w (#[X] ++ vals) hS hg (by simpa using Vs.cons hX hv)
        have : (callMethod (.iface t X) name vals).run P w = (callFunc f (#[X] ++ vals)).run P w := by
          simp only [callMethod, Sem.run_bind, run_program, Result.andThen_ok, hM.plain t name f hm]
        rw [this]
        exact callFunc_upon hc
      · rename_i f n hm
        split at h
        · rename_i y hy
          obtain ⟨tt, htt, hrun⟩ := hM.through t name f n hm
          obtain ⟨ad, R, rfl, q1, q2⟩ := loadA_V hS htt hX hy
          have hc := hE.call _ _ _ _ _ h G w (#[R] ++ vals) hS hg (by simpa using Vs.cons q2 hv)
          have : (callMethod (.iface t (.pointer (some ad))) name vals).run P w = (callFunc f (#[R] ++ vals)).run P w := by
            simp only [callMethod, Sem.run_bind, run_program, Result.andThen_ok, hrun ad R w q1]
          rw [this]
          exact callFunc_upon hc
        · cases h
      · cases h
  · cases h

theorem args_tail {A : Array Value} {X : Value} {L : List Value} (h : A.toList = X :: L) : A[0]? = some X ∧ (A.extract 1 A.size).toList = L := by
  obtain ⟨l⟩ := A
  simp at h; subst h
  simp

/-- A value that is called. -/
theorem callVal_V {E : Ev} (hE : EvOk P C E) (hM : MethOk P C) (hS : S P G st.h w) (hg : GlobOk C G) {x : AVal} {X : Value} {args : List AVal} {vals : Array Value} (hX : V G X x) (hv : Vs G vals.toList args)
    (h : callVal C E x args st = some (v, st')) : Upon P G st.h w ((do let d ← Deferred.ofValue X vals; invoke d.target d.args : Sem Next).run P w) st'.h v := by
  unfold callVal at h
  split at h
  · rename_i f first captured
    cases hX with
    | func _ A B _ _ h1 h2 h3 h4 =>
      have hc := hE.call _ _ _ _ _ h G w (A ++ vals ++ B) hS hg (by simpa using ((Vs.of_array h1 h3).append (hv.append (Vs.of_array h2 h4))))
      have : ((do let d ← Deferred.ofValue (.func (.func f) A B) vals; invoke d.target d.args : Sem Next).run P w) = (callFunc f (A ++ vals ++ B)).run P w := by
        simp only [Deferred.ofValue, Sem.run_bind, Sem.run_pure, Result.andThen_ok, invoke]
      rw [this]
      exact callFunc_upon hc
  · rename_i name first captured
    cases hX with
    | func _ A B _ _ h1 h2 h3 h4 =>
      have hall := (Vs.of_array h1 h3).append hv
      split at h
      · rename_i recv rest hrec
        rw [hrec] at hall
        generalize hL : A.toList ++ vals.toList = L at hall
        cases L with
        | nil => exact absurd hall.1 (by simp)
        | cons R L =>
          obtain ⟨e1, e2⟩ := args_tail (A := A ++ vals) (X := R) (L := L) (by simpa using hL)
          have hcm := callMeth_V hE hM hS hg (vals := (A ++ vals).extract 1 (A ++ vals).size) hall.head (by rw [e2]; exact hall.tail) h
          have : ((do let d ← Deferred.ofValue (.func (.method name) A B) vals; invoke d.target d.args : Sem Next).run P w) = (callMethod R name ((A ++ vals).extract 1 (A ++ vals).size)).run P w := by
            simp only [Deferred.ofValue, Sem.run_bind, Sem.run_pure, Result.andThen_ok, invoke, e1]
          rw [this]
          exact hcm
      · cases h
  · rename_i b
    cases hX with
    | yield _ p h1 h2 =>
      obtain ⟨f, tmps, as, bd, q1, q2⟩ := hE.yield _ _ _ _ _ h G w (#[] ++ vals) p hS hg h2 (by simpa using hv)
      refine .inr (.inr ⟨_, f, tmps, as, bd, ?_, q2⟩)
      simp only [Deferred.ofValue, Sem.run_bind, Sem.run_pure, Result.andThen_ok, invoke]
      exact q1
  · cases h

theorem evOs_arr (he : EnvRel G e a.tmps) (hg : GlobOk C G) {xs : Array Operand} {ys : List Oprd} {vs : List AVal} (hc : cOprs xs.toList = some ys) (hv : evOs C e ys = some vs) : Vs G (xs.map a.eval).toList vs := by
  simpa using evOs_V he hg hc hv

theorem cBin_noCall {bop : BinOp} {t : TypeId} {x y : Operand} {op : AOp} (hc : cBin P bop t x y = some op) : op.isCall = false := by
  unfold cBin cEq at hc
  (repeat' split at hc) <;> first | (cases hc; done) | (cases hc; rfl)

theorem cConv_noCall {s d : TypeId} {x : Oprd} {op : AOp} (hc : cConv P s d x = some op) : op.isCall = false := by
  unfold cConv at hc
  (repeat' split at hc) <;> first | (cases hc; done) | (cases hc; rfl)

theorem cOp_call {op : AOp} (hc : cOp P o = some op) (hn : op.isCall = true) : ∃ c, o.op = .call c ∧ cCall P c = some op := by
  unfold cOp at hc
  split at hc
  case h_30 c ho => exact ⟨c, ho, hc⟩
  all_goals
    exfalso
    revert hn
    simp only [imp_false, Bool.not_eq_true]
    first
      | exact cBin_noCall hc
      | ((repeat' split at hc) <;> first
        | (cases hc; done)
        | (cases hc; rfl)
        | (simp only [Option.map_eq_some_iff] at hc; obtain ⟨_, _, rfl⟩ := hc; rfl)
        | (obtain ⟨_, _, hc⟩ := bind_two hc; exact cConv_noCall hc)
        | (obtain ⟨_, _, hc⟩ := bind_two hc; simp only [Option.map_eq_some_iff] at hc; obtain ⟨_, _, rfl⟩ := hc; rfl)
        | (obtain ⟨_, _, hc⟩ := bind_two hc; (repeat' split at hc) <;> first | (cases hc; done) | (cases hc; rfl))
        | (obtain ⟨_, _, hc⟩ := bind_two hc; obtain ⟨_, _, hc⟩ := bind_two hc; (repeat' split at hc) <;> first | (cases hc; done) | (cases hc; rfl)))

/-- ANY OPERATION. -/
theorem stepAny_V {E : Ev} (hE : EvOk P C E) (hM : MethOk P C) (hC : CtxOk P C) (hS : S P G st.h w) (he : EnvRel G e a.tmps) (hg : GlobOk C G) {op : AOp} (hc : cOp P o = some op) (h : stepAny C E e op st = some (v, st')) :
    Upon P G st.h w ((execOp a.eval o).run P w) st'.h v := by
  by_cases hn : op.isCall = false
  · refine .inl (so_op hC hS he hg hc hn ?_)
    cases op <;> first | exact h | simp [AOp.isCall] at hn
  · -- it is a call's
    have hcall := cOp_call hc (by simpa using hn)
    obtain ⟨c, ho, hc⟩ := hcall
    have hres : ∀ d, (resolve a.eval c o.type) = pure d → (execOp a.eval o).run P w = (invoke d.target d.args).run P w := by
      intro d hd
      simp only [execOp, ho, hd, Sem.run_bind, Sem.run_pure, Result.andThen_ok]
    unfold cCall at hc
    split at hc
    · cases hc
    · rename_i args ha
      split at hc
      · rename_i f hcal
        cases hc
        simp only [stepAny] at h
        split at h
        · rename_i vs hvs
          have hV := evOs_arr he hg ha hvs
          have := hE.call _ _ _ _ _ h G w (c.args.map a.eval) hS hg hV
          have hr : (execOp a.eval o).run P w = (callFunc f (c.args.map a.eval)).run P w := by
            simp [execOp, ho, resolve, hcal, Act.eval, Deferred.ofValue, invoke]
          rw [hr]
          exact callFunc_upon this
        · cases h
      · rename_i x hnf hcal
        simp only [Option.map_eq_some_iff] at hc
        obtain ⟨y, hy, rfl⟩ := hc
        simp only [stepAny] at h
        split at h
        · rename_i fv vs hf hvs
          have hV := evOs_arr he hg ha hvs
          have := callVal_V hE hM hS hg (evO_V he hg hy hf) hV h
          have hr : (execOp a.eval o).run P w = ((do let d ← Deferred.ofValue (a.eval x) (c.args.map a.eval); invoke d.target d.args : Sem Next).run P w) := by
            simp only [execOp, ho, resolve, hcal]
          rw [hr]
          exact this
        · cases h
      · rename_i r name hcal
        simp only [Option.map_eq_some_iff] at hc
        obtain ⟨y, hy, rfl⟩ := hc
        simp only [stepAny] at h
        split at h
        · rename_i rv vs hr hvs
          have hV := evOs_arr he hg ha hvs
          have := callMeth_V hE hM hS hg (evO_V he hg hy hr) hV h
          have hrr : (execOp a.eval o).run P w = (callMethod (a.eval r) name (c.args.map a.eval)).run P w := by
            obtain ⟨e1, e2⟩ := args_tail (A := #[a.eval r] ++ c.args.map a.eval) (X := a.eval r) (L := (c.args.map a.eval).toList) (by simp)
            have e3 : (#[a.eval r] ++ c.args.map a.eval).extract 1 (#[a.eval r] ++ c.args.map a.eval).size = c.args.map a.eval := Array.ext' e2
            simp only [execOp, ho, resolve, hcal, Sem.run_bind, Sem.run_pure, Result.andThen_ok, invoke, e1, e3]
          rw [hrr]
          exact this
        · cases h
      · rename_i b hcal
        exfalso
        (repeat' split at hc) <;> first | (cases hc; done) | (cases hc; exact hn rfl)

end Go.Shadow

namespace Go.Shadow
open Go

variable {P : Program} {C : Ctx} {G : Rel} {e e' : Env} {a : Act} {st st' : St} {w : World} {v : AVal} {o : Oper} {E : Ev}

/-! ### Regions in their own order -/

theorem fence_wide_calls {f : FuncId} {vals : Array Value} {R : Ending → World → Prop} (ro : Option Nat) (h : CallsIn Fence.wide 0 P f vals w R) : CallsIn (fence ro) (0 - 1) P f vals w R := h

theorem upon_wp {h h' : List ABlk} {r : Result Next} (ro : Option Nat) {next : Act → World → Prop} {Q : Exit → Act → World → Prop} (hU : Upon P G h w r h' v)
    (hn : ∀ cv G' w', V G' cv v → S P G' h' w' → Ext G h w G' h' w' → next (a.put o.dst cv) w') : o.uponIn (fence ro) 0 P a next Q r := by
  rcases hU with ⟨G', w', cv, hr, q1, q2, q3⟩ | ⟨f, vals, rfl, hc⟩ | ⟨l, f, tmps, as, bd, rfl, hc⟩
  · rcases hr with rfl | ⟨rfl, rfl⟩
    · exact hn cv G' w' q1 q2 q3
    · exact hn undef G' w' q1 q2 q3
  · rw [Oper.uponIn_enter]
    refine ⟨fun h => by simp [fence, Fence.wide] at h, CallsIn.mono (show CallsIn (fence ro) (0 - 1) P f vals w _ from hc) fun en w' hR => ?_⟩
    cases en with
    | returned cv =>
      obtain ⟨G', q1, q2, q3⟩ := hR
      exact hn cv G' w' q1 q2 q3
    | panicked c => exact absurd hR id
    | outgrown => exact absurd hR id
  · rw [Oper.uponIn_round]
    refine ⟨fun h => by simp [fence, Fence.wide] at h, RoundIn.mono (show RoundIn (fence ro) (0 - 1) P l f tmps as bd w _ from hc) fun en w' hR => ?_⟩
    cases en with
    | returned cv =>
      obtain ⟨G', q1, q2, q3⟩ := hR
      exact hn cv G' w' q1 q2 q3
    | panicked c => exact absurd hR id
    | outgrown => exact absurd hR id

theorem cOp_noDefer {op : AOp} (hc : cOp P o = some op) : ∀ c, o.op ≠ .defer c := by
  intro c ho
  simp [cOp, ho] at hc

theorem put_EnvRel {t : Array Value} (he : EnvRel G e t) {dst : Option Nat} {cv : Value} (hv : V G cv v) {N : Nat} (hd : ∀ d, dst = some d → d < N) (hN : N ≤ t.size) :
    EnvRel G (e.put dst v) ((⟨t, []⟩ : Act).put dst cv).tmps := by
  cases dst with
  | none => exact he
  | some d =>
    have hlt : d < t.size := Nat.lt_of_lt_of_le (hd d rfl) hN
    intro k u hk
    simp only [Env.put, Env.get] at hk
    simp only [Act.put]
    split at hk
    · rename_i hdk
      subst hdk
      cases hk
      simpa [Array.getD, hlt] using hv
    · rename_i hdk
      have := he k u hk
      have e1 : (t.setIfInBounds d cv).getD k undef = t.getD k undef := by
        simp [Array.getD_eq_getD_getElem?, Array.getElem?_setIfInBounds_ne hdk]
      rw [e1]; exact this

theorem put_env (he : EnvRel G e a.tmps) {dst : Option Nat} {cv : Value} (hv : V G cv v) {N : Nat} (hd : ∀ d, dst = some d → d < N) (hN : N ≤ a.tmps.size) : EnvRel G (e.put dst v) (a.put dst cv).tmps := by
  have := put_EnvRel he hv hd hN
  cases dst with
  | none => exact this
  | some d => exact this

theorem put_size (a : Act) (dst : Option Nat) (cv : Value) : (a.put dst cv).tmps.size = a.tmps.size := by
  cases dst <;> simp [Act.put]
theorem put_defers (a : Act) (dst : Option Nat) (cv : Value) : (a.put dst cv).defers = a.defers := by
  cases dst <;> simp [Act.put]

/-- A guard. -/
theorem wanted_V {ops : Array Oper} (he : EnvRel G e a.tmps) {g : Option (Nat × Bool)} {g' : Option (Nat × Bool)} (hc : cGuard ops g = some g') {N : Nat} (hN : N ≤ a.tmps.size) (hlt : ∀ t b, g' = some (t, b) → t < N) {b : Bool} (h : wantedA e g' = some b) (hg : o.guard = g) : Region.wanted o (yielded ops a.tmps) = b := by
  unfold Region.wanted
  rw [hg]
  cases g with
  | none => simp [cGuard] at hc; subst hc; simp [wantedA] at h; exact h.symm ▸ rfl
  | some gb =>
    obtain ⟨j, bb⟩ := gb
    simp only [cGuard] at hc
    split at hc
    · rename_i t ht
      cases hc
      simp only [wantedA] at h
      have hlt' : t < a.tmps.size := Nat.lt_of_lt_of_le (hlt t bb rfl) hN
      have hy : ∀ V, a.tmps.getD t undef = V → a.tmps[t]? = some V := by
        intro V hV
        rw [← hV]
        simp [Array.getD, hlt']
      simp only [yielded, ht, Option.bind_some]
      split at h
      · rename_i c hget
        have hv := he t _ hget
        generalize hV : a.tmps.getD t undef = V at hv
        cases hv
        rw [hy _ hV]
        simp only at h ⊢
        cases h
        cases bb <;> cases c <;> rfl
      · rename_i hget
        have hv := he t _ hget
        generalize hV : a.tmps.getD t undef = V at hv
        cases hv
        rw [hy _ hV]
        simp only at h ⊢
        cases h
        rfl
      · cases h
    · cases hc

theorem ops_V (hE : EvOk P C E) (hM : MethOk P C) (hC : CtxOk P C) {N : Nat} {ops : Array Oper} (ro : Option Nat) {Q : Exit → Act → World → Prop} : ∀ (os : List Oper) (k : Nat) (l : List AOper) (e : Env) (st : St) (a : Act) (G : Rel) (w : World) (e' : Env) (st' : St),
    (∀ (j : Nat) o, os[j]? = some o → ops[k + j]? = some o) → cOpers P ops os k = some l → dstsOk N l → guardsOk N l → evalOps C E l e st = some (e', st') →
    S P G st.h w → GlobOk C G → EnvRel G e a.tmps → N ≤ a.tmps.size →
    (∀ a1 w1 G1, EnvRel G1 e' a1.tmps → S P G1 st'.h w1 → Ext G st.h w G1 st'.h w1 → a1.defers = a.defers → a1.tmps.size = a.tmps.size → Q .normal a1 w1) →
    wpOpsIn (fence ro) 0 P ops Q (List.range' k os.length) a w
  | [], k, l, e, st, a, G, w, e', st', hops, hc, hd, hgd, hev, hS, hg, he, hN, hQ => by
    simp [cOpers] at hc; subst hc
    simp [evalOps] at hev
    obtain ⟨rfl, rfl⟩ := hev
    exact hQ a w G he hS (.refl _ _ _) rfl rfl
  | o :: os, k, l, e, st, a, G, w, e', st', hops, hc, hd, hgd, hev, hS, hg, he, hN, hQ => by
    simp only [cOpers] at hc
    split at hc
    · rename_i ao as hao has
      cases hc
      unfold cOper at hao
      split at hao
      · rename_i op gd hop hgd1
        cases hao
        have ho : ops[k]? = some o := by simpa using hops 0 o rfl
        have hops' : ∀ (j : Nat) o', os[j]? = some o' → ops[k + 1 + j]? = some o' := fun j o' h => by
          have := hops (j + 1) o' (by simpa using h)
          rwa [show k + (j + 1) = k + 1 + j by omega] at this
        have hd' : dstsOk N as := fun x hx => hd x (by simp [hx])
        have hgd' : guardsOk N as := fun x hx => hgd x (by simp [hx])
        have hd0 : ∀ d, o.dst = some d → d < N := hd _ (List.mem_cons_self ..)
        have hg0 : ∀ t b, gd = some (t, b) → t < N := hgd _ (List.mem_cons_self ..)
        rw [List.length_cons, List.range'_succ]
        simp only [wpOpsIn, ho]
        simp only [evalOps] at hev
        split at hev
        · rename_i hw
          have hwant := wanted_V (o := o) he hgd1 hN hg0 hw rfl
          rw [hwant]
          simp only [if_true]
          split at hev
          · rename_i v st1 hstep
            refine ⟨fun _ _ => trivial, ?_⟩
            rw [Oper.semAt_eq _ _ _ (cOp_noDefer hop)]
            refine upon_wp ro (stepAny_V hE hM hC hS he hg hop hstep) fun cv G' w' q1 q2 q3 => ?_
            refine ops_V hE hM hC ro os (k + 1) as _ st1 _ G' w' e' st' hops' has hd' hgd' hev q2 (hg.mono q3.le) (put_env (he.mono q3.le) q1 hd0 hN) (by rw [put_size]; exact hN) fun a1 w1 G1 r1 r2 r3 r4 r5 => ?_
            exact hQ a1 w1 G1 r1 r2 (q3.trans r3) (r4.trans (put_defers _ _ _)) (r5.trans (put_size _ _ _))
          · cases hev
        · rename_i hw
          have hwant := wanted_V (o := o) he hgd1 hN hg0 hw rfl
          rw [hwant]
          simp only [Bool.false_eq_true, if_false]
          refine ⟨fun _ _ => trivial, ?_⟩
          refine ops_V hE hM hC ro os (k + 1) as _ st _ G w e' st' hops' has hd' hgd' hev hS hg (put_env he (V_undef G) hd0 hN) (by rw [put_size]; exact hN) fun a1 w1 G1 r1 r2 r3 r4 r5 => ?_
          exact hQ a1 w1 G1 r1 r2 r3 (r4.trans (put_defers _ _ _)) (r5.trans (put_size _ _ _))
        · cases hev
      · cases hao
    · cases hc

theorem region_V (hE : EvOk P C E) (hM : MethOk P C) (hC : CtxOk P C) {N id : Nat} {ops : Array Oper} {l : List AOper} (hc : cOpers P ops ops.toList 0 = some l) (hd : dstsOk N l) (hgd : guardsOk N l) (hev : evalOps C E l e st = some (e', st')) (ro : Option Nat)
    (hS : S P G st.h w) (hg : GlobOk C G) (he : EnvRel G e a.tmps) (hN : N ≤ a.tmps.size) : (Code.region id ops false).wpIn (fence ro) 0 P (CodePost P G st.h w a .normal e' st'.h) a w := by
  refine wpIn_region ?_
  have := ops_V hE hM hC ro (Q := CodePost P G st.h w a .normal e' st'.h) ops.toList 0 l e st a G w e' st' (fun j o h => by simpa using h) hc hd hgd hev hS hg he hN
    (fun a1 w1 G1 r1 r2 r3 r4 r5 => ⟨rfl, G1, r1, r2, r3, ⟨[], by simp [r4], ⟨by simp, .nil⟩⟩, r5⟩)
  simpa [List.range_eq_range'] using this

end Go.Shadow
