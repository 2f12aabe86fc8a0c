/-
  MintRight, for every input: the law returns true and its arguments read afterwards as they did: what mint.Mint makes is right, is counted once, its plain text has its digest, typed with blanks and in capital letters too.
  Conditions: the row's own (its five listed tables hold what the program's text lays; the card ties them). Nothing else.
-/
import Derived.Test.YtgjiicjbkmcecaaDoorM25
import Derived.Test.YtgjiicjbkmcecaaDoorCards
import Derived.Test.YtgjiicjbkmcecaaDoorTie
import Derived.WalkKit
import Derived.ProofKit
import Derived.OpenShut
import Derived.Carry
import Derived.Deep.DeepHandedRow
import Derived.Lib.LaidTab
import Derived.Lay
import Derived.Stop.LaidErr
namespace Go.Proofs.YtgjiicjbkmcecaaDoor.mintRight
open Go.ChangeShapes Go.WideShapes Go.ChangeAt Go.RowKit
set_option maxRecDepth 100000
theorem own : ownKnob Tryd.prog.godebug = none := by kernel_rfl
theorem gTab : Tryd.prog.globalNamed "internal/strconv.uint64pow10" = some 1 := by kernel_rfl
theorem gTabType : (Tryd.prog.globals[1]?).map (·.type) = some 122 := by kernel_rfl
theorem cellsTab : Tryd.prog.cellsOf 122 = 20 := by kernel_rfl
theorem cellsU64 : Tryd.prog.cellsOf 73 = 1 := by kernel_rfl
theorem pow_data : Lib.tabData (H := Unit) .u64 Lib.pow10Tab = Rows.laid_internal_strconv_uint64pow10 := by kernel_rfl
theorem table {W : World} (h : laidMetH Tryd.prog Rows.mintRightRow.laid W) : PowTab W := by
  have h1 : laidMet Tryd.prog Rows.mintRightRow.laid W := h
  have h2 := h1.tail.tail
  rw [← pow_data] at h2
  exact Lib.tabIs_of_head gTab gTabType Tryd.underlying122 Tryd.underlying73 cellsU64 cellsTab h2
theorem maxCell {W : World} (h : W.ShapedOpen Tryd.prog) : MaxCell W := by
  obtain ⟨m, hm⟩ := Go.Proofs.cell_of_shapedOpen_int (zero := #[.int .i64 0]) (t := 3) h (of_decide_eq_true (by kernel_rfl)) (by kernel_rfl) rfl (by kernel_rfl) (by kernel_rfl) Tryd.underlying3
  refine ⟨m, hm, ?_⟩
  unfold World.cell? at hm
  cases hh : W.heap[0]? with
  | none => simp [hh] at hm
  | some o => exact (Array.getElem?_eq_some_iff.1 hh).1
theorem laidOut : laidOutB Tryd.prog = true := by kernel_rfl
theorem open_two {H : Type} {enc : TypeId × Value → H} {P : Program} {w : World} {base : Nat} {sp : Nat → Bool} {held : Bool} {t e : TypeId} {k : IntKind} {v : Value} {d : DataW H} {ps : List MemPlace} {r : Reach} {b0 : Nat}
    (ht : P.underlying t = some (.array 2 e)) (he : P.underlying e = some (.int k)) (hce : P.cellsOf e = 1) (hct : P.cellsOf t = 2) (hval : Value.okWide P w r b0 t v) (h : DataW.Trod enc P w base sp held t v d ps) : ∃ a b, v = .agg #[.int k a, .int k b] := by
  simp only [Value.okWide, ht] at hval
  obtain ⟨cs, rfl, hcs, _⟩ := hval
  obtain ⟨fuel, h⟩ := h
  cases fuel with
  | zero => simp [DataW.trod] at h
  | succ fuel =>
    simp only [DataW.trod, ht, hce, hct, Nat.mul_one, Value.cells] at h
    split at h
    · rename_i hl
      obtain ⟨xs, hm, hx⟩ := Option.map_eq_some_iff.1 h
      obtain ⟨b0, _, hf0⟩ := Lib.mapM_at hm 0 0 (by simp)
      obtain ⟨b1, _, hf1⟩ := Lib.mapM_at hm 1 1 (by simp)
      obtain ⟨z0, hc0, _, _⟩ := DataW.trod_int he hf0
      obtain ⟨z1, hc1, _, _⟩ := DataW.trod_int he hf1
      have g0 : cs.toList[0]? = some (.int k z0) := by
        have := congrArg (·[0]?) hc0
        simpa [List.getElem?_take, List.getElem?_drop] using this
      have g1 : cs.toList[1]? = some (.int k z1) := by
        have := congrArg (·[0]?) hc1
        simpa [List.getElem?_take, List.getElem?_drop] using this
      refine ⟨z0, z1, ?_⟩
      congr 1
      apply Array.ext'
      apply List.ext_getElem?
      intro j
      have hl2 : cs.toList.length = 2 := by rw [Array.length_toList, hcs, hct]
      match j with
      | 0 => rw [g0]; rfl
      | 1 => rw [g1]; rfl
      | j + 2 => rw [List.getElem?_eq_none (by omega)]; rfl
    · cases h
theorem contract (H : Type) (enc : TypeId × Value → H) (W : World) (base : Nat) (args : Array Value) (ds gs : List (DataW H)) (before : List MemPlace)
    (hval : ∀ (j : Nat) t v, Tryd.f3.params[j]? = some t → args[j]? = some v → Value.okWide Tryd.prog W .any base t v)
    (hW : DataW.Whole enc Tryd.prog Tryd.f3.params.toList Rows.mintRightSpec.vars false W args.toList ds gs before) (hL : laidMetH Tryd.prog Rows.mintRightRow.laid W) (hS : W.ShapedOpen Tryd.prog) :
    Calls Tryd.prog 3 args W fun e W' => ∃ v, e = .returned v ∧ Rows.mintRightSpec.post enc Tryd.prog Tryd.f3 false true false false W args v W' := by
  have hW' := hW
  obtain ⟨p, q, hA0, hV, rfl, hfz, hnd⟩ := hW
  have hA : DataW.TrodAll enc Tryd.prog W 0 (fun _ => true) true Tryd.f3.params.toList args.toList ds p := hA0
  rw [Tryd.params3] at hA hval
  obtain ⟨v0, v1, v2, d0, d1, d2, p0, p1, p2, rfl, rfl, rfl, h0, h1, h2⟩ := trodAll_three hA
  obtain ⟨rfl, rfl⟩ := trodVars_none hV
  obtain ⟨a, b, rfl⟩ := open_two Tryd.underlying22 Tryd.underlying2 (by kernel_rfl) (by kernel_rfl) (hval 2 22 v2 rfl rfl) h2
  obtain ⟨n, rfl, rfl, rfl, hn⟩ := open_int Tryd.underlying3 (hval 0 3 v0 rfl rfl) h0
  obtain ⟨s, rfl, rfl, rfl, hs⟩ := ChangeMaps.open_string Tryd.underlying9 (hval 1 9 v1 rfl rfl) h1
  have hn' : -9223372036854775808 ≤ n ∧ n ≤ 9223372036854775807 := by
    simp only [Lit.wf, Bool.and_eq_true, decide_eq_true_eq] at hn
    exact hn
  clear hA0
  simp only [List.append_nil, List.nil_append] at hW'
  have hlt : ∀ x ∈ p2, x.block < W.heap.size := fun x hx => by simpa using hW'.lt x (by simpa using hx)
  refine (mintRight_any n s a b W ⟨table hL, maxCell hS⟩ hn'.1 hn'.2).mono fun e W' ⟨he, hg⟩ => ?_
  subst he
  have t0 : DataW.Trod enc Tryd.prog W' 0 (fun b => decide (b < W.heap.size)) true 3 (.int .i64 n) (.lit (.int .i64 n)) [] := shut_int Tryd.underlying3 hn
  have t1 : DataW.Trod enc Tryd.prog W' 0 (fun b => decide (b < W.heap.size)) true 9 (.string s) (.lit (.string s.data.toList)) [] := ChangeMaps.shut_string Tryd.underlying9 hs
  have t2 : DataW.Trod enc Tryd.prog W' 0 (fun b => decide (b < W.heap.size)) true 22 (.agg #[.int .i64 a, .int .i64 b]) d2 p2 := Below.trod laidOut (by kernel_rfl) (of_decide_eq_true (by kernel_rfl)) h2 hg hlt
  exact ⟨_, rfl, _, _, _, [], _, [], hW', trodAll_mk1 (shut_bool Tryd.underlying4 _), trodAll_mk3 t0 t1 t2, rfl, hg.frame _, fun h => by cases h⟩
/-- The witness: all listed tables laid by the kit's function. -/
noncomputable def args0 : Array Value := #[.int .i64 0, .string ⟨#[]⟩, .agg #[.int .i64 0, .int .i64 0]]
theorem laid_met (os : Os) : laidMetH Tryd.prog Rows.mintRightRow.laid ((World.laidAll Tryd.prog os Rows.mintRightRow.laid).forCall (fun _ _ => 0) ⟨#[], args0, []⟩).memory := by
  rw [MakeChecks.laidMetH_plain _ _ _ (by kernel_rfl)]
  exact laidMet_laidAll _ (by kernel_rfl) (by kernel_rfl)
theorem reads (os : Os) {H : Type} (enc : TypeId × Value → H) : ∃ places, DataW.whole enc Tryd.prog ((World.laidAll Tryd.prog os Rows.mintRightRow.laid).forCall (fun _ _ => 0) ⟨#[], args0, []⟩).memory Tryd.f3.params.toList Rows.mintRightSpec.vars false args0.toList 8 = some ([.lit (.int .i64 0), .lit (.string []), .agg [.lit (.int .i64 0), .lit (.int .i64 0)]], [], places) :=
  ⟨[], by kernel_rfl⟩
theorem lifted (os : Os) (started : os.Started) (H : Type) (enc : TypeId × Value → H) (F : Stop.Interp) :
    ReturnsInHanded {} Tryd.checked os 3 .any ((OpenSpec.ofChange Rows.mintRightSpec).preRow enc Tryd.prog Tryd.f3 Rows.mintRightRow.domain false Rows.mintRightRow.laid) (((OpenSpec.ofChange Rows.mintRightSpec).at F).post enc Tryd.prog Tryd.f3 false true false false) := by
  obtain ⟨places, hx⟩ := reads os enc
  refine returnsInHanded_of_row (C := Tryd.checked) (s := OpenSpec.ofChange Rows.mintRightSpec) own started (by kernel_rfl) Tryd.func3
    (witness_row_at (enc := enc) (C := Tryd.checked) false (World.laidAll Tryd.prog os Rows.mintRightRow.laid) args0 (World.laidAll_os _ _ _) (by kernel_rfl) (by kernel_rfl) (by kernel_rfl)
      (OpenSpec.preRow_of_cond 8 hx (by kernel_rfl) (fun k hk => by cases hk) (by kernel_rfl) (laid_met os))) ?_
  intro W base args ds gs before hval hW _ _ _ hL hS _
  exact contract H enc W base args ds gs before hval hW hL hS
theorem said : Rows.MintRightSaid :=
  OpenClaim.holds_of_cond 3 Tryd.f3 rfl rfl rfl rfl rfl rfl rfl ⟨rfl, rfl, rfl, rfl, rfl⟩ rfl rfl rfl rfl rfl (by kernel_rfl) Tryd.func3 (by kernel_rfl)
    (of_decide_eq_true (by kernel_rfl)) (by unfold Func.isWrapper; first | (rw [if_pos (by decide +kernel)]; kernel_rfl) | (rw [if_neg (by decide +kernel)]; exact ⟨rfl, rfl⟩))
    (fun os started H enc _ F => by rw [OpenClaim.pre_eq_preRow]; exact lifted os started H enc F)
theorem plain (f : FuncId) (fn : Func) (hf : Tryd.pinned.checked.prog.funcNamed "homecoming/homecominglaw10.MintRight" = some f) (hfn : Tryd.pinned.checked.prog.funcs[f]? = some fn) :
    false = Tryd.pinned.checked.prog.looks [] ∧ ∀ (j : Nat) t, fn.params[j]? = some t → Tryd.pinned.checked.prog.wantsStandIn t = false := by
  obtain rfl : f = 3 := Option.some.inj ((show Tryd.prog.funcNamed "homecoming/homecominglaw10.MintRight" = some 3 by kernel_rfl).symm.trans hf) |>.symm
  obtain rfl : fn = Tryd.f3 := (Option.some.inj (Tryd.func3.symm.trans hfn)).symm
  refine ⟨by kernel_rfl, fun j t ht => ?_⟩
  rw [Tryd.params3] at ht
  have : t = 3 ∨ t = 9 ∨ t = 22 := by simpa using Array.mem_of_getElem? ht
  rcases this with rfl | rfl | rfl
  · exact (show Tryd.prog.wantsStandIn 3 = false by kernel_rfl)
  · exact (show Tryd.prog.wantsStandIn 9 = false by kernel_rfl)
  · exact (show Tryd.prog.wantsStandIn 22 = false by kernel_rfl)
theorem card : Rows.MintRightCardSaid :=
  Claim7.holds_tied_plain_at .later [] _ _ _ _ said (fun _ h => by cases h) (by kernel_rfl) (fun _ h => by cases h) mintRight_row_tie rfl ⟨rfl, rfl⟩ (by kernel_rfl) rfl plain (by kernel_rfl)
end Go.Proofs.YtgjiicjbkmcecaaDoor.mintRight
