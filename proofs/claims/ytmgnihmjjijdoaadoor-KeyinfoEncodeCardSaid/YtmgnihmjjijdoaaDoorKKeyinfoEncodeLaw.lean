/- The law KeyinfoEncode holds (the tied card): whatever the arguments are, it returns true, and they read as they did. Conditions: the listed tables of Go's library hold what the program's text lays (tied by the card). -/
import Derived.Test.YtmgnihmjjijdoaaDoorKKeyS
import Derived.Test.YtmgnihmjjijdoaaDoorKGOidD
import Derived.Test.YtmgnihmjjijdoaaDoorKGOidS
import Derived.Test.YtmgnihmjjijdoaaDoorCards
import Derived.Test.YtmgnihmjjijdoaaDoorTie
import Derived.Deep.DeepHandedRow
import Derived.Test.YtmgnihmjjijdoaaDoorKLibK
namespace Go.Proofs.YtmgnihmjjijdoaaDoor.keyinfoEncode
open Go.RowKit Go.ChangeShapes Go.WideShapes Go.ChangeAt
open Go.ChangeMaps (open_string)
theorem own : ownKnob Tryd.prog.godebug = none := by kernel_rfl
theorem cells_ints : Tryd.prog.cellsOf 3 = 1 := by kernel_rfl
set_option maxRecDepth 100000 in
theorem contract (H : Type) (enc : TypeId × Value → H) (W : World) (base : Nat) (args : Array Value) (ds gs : List (DataW H)) (before : List MemPlace)
  (hval : ∀ (j : Nat) t v, Tryd.f3.params[j]? = some t → args[j]? = some v → Value.okWide Tryd.prog W .any base t v)
  (hW : DataW.Whole enc Tryd.prog Tryd.f3.params.toList Rows.keyinfoEncodeSpec.vars false W args.toList ds gs before) (hL : laidMetH Tryd.prog Rows.keyinfoEncodeRow.laid W) (hS : W.ShapedOpen Tryd.prog) :
  Calls Tryd.prog 3 args W fun e W' => ∃ v, e = .returned v ∧ Rows.keyinfoEncodeSpec.post enc Tryd.prog Tryd.f3 false true false false W args v W' := by
 have hW' := hW
 have hlt : ∀ x ∈ before, x.block < W.heap.size := fun x hx => hW.lt x hx
 obtain ⟨p, q, hA0, hV, rfl, hfz, hnd⟩ := hW
 have hA : DataW.TrodAll enc Tryd.prog W 0 (fun _ => true) true Tryd.f3.params.toList args.toList ds p := hA0
 rw [Tryd.params3] at hA hval
 obtain ⟨v0, vs0, d0, ds0, p0, q0, hargs, rfl, rfl, h0, r0⟩ := trodAll_cons hA
 obtain ⟨v1, vs1, d1, ds1, p1, q1, rfl, rfl, rfl, h1, r1⟩ := trodAll_cons r0
 obtain ⟨rfl, rfl, rfl⟩ := trodAll_nil r1
 obtain rfl : args = #[v0, v1] := by cases args; simp_all
 obtain ⟨rfl, rfl⟩ := trodVars_none hV
 obtain ⟨et0, ec0, er0, rfl⟩ := open_key (hval 0 23 v0 rfl rfl) h0
 obtain ⟨l1, A1, n1, c1, rfl, k1, b1⟩ := open_intk Tryd.underlying24 Tryd.underlying3 cells_ints (hval 1 24 v1 rfl rfl) h1 (fun x hx => hlt x (by simp [hx]))
 refine (KeyinfoEncode_any et0 ec0 er0 l1 A1 n1 c1 W (mx_of hS) (tb_of hL rfl rfl) k1).mono fun e W' ⟨he, hb⟩ => ⟨_, he, ?_⟩
 exact law_post (tb := 4) (by kernel_rfl) (fun t ht => by
  rw [Tryd.params3] at ht
  simp only [List.mem_cons, List.not_mem_nil, or_false] at ht
  rcases ht with rfl | rfl <;> exact ⟨by kernel_rfl, of_decide_eq_true (by kernel_rfl)⟩) rfl rfl Tryd.underlying4 hW' rfl hb
noncomputable def laidWorld (os : Os) : World :=
 { World.holding Tryd.prog os ⟨#[], #[], []⟩ with heap := ((((((World.holding Tryd.prog os ⟨#[], #[], []⟩).heap.modify 4 fun
   | .cells _ t frozen => .cells #[.int .u8 0, .int .u8 1, .int .u8 28, .int .u8 2, .int .u8 29, .int .u8 14, .int .u8 24, .int .u8 3, .int .u8 30, .int .u8 22, .int .u8 20, .int .u8 15, .int .u8 25, .int .u8 17, .int .u8 4, .int .u8 8, .int .u8 31, .int .u8 27, .int .u8 13, .int .u8 23, .int .u8 21, .int .u8 19, .int .u8 16, .int .u8 7, .int .u8 26, .int .u8 12, .int .u8 18, .int .u8 6, .int .u8 11, .int .u8 5, .int .u8 10, .int .u8 9] t frozen
   | o => o).modify 5 fun
   | .cells _ t frozen => .cells #[.int .u8 0, .int .u8 1, .int .u8 56, .int .u8 2, .int .u8 57, .int .u8 49, .int .u8 28, .int .u8 3, .int .u8 61, .int .u8 58, .int .u8 42, .int .u8 50, .int .u8 38, .int .u8 29, .int .u8 17, .int .u8 4, .int .u8 62, .int .u8 47, .int .u8 59, .int .u8 36, .int .u8 45, .int .u8 43, .int .u8 51, .int .u8 22, .int .u8 53, .int .u8 39, .int .u8 33, .int .u8 30, .int .u8 24, .int .u8 18, .int .u8 12, .int .u8 5, .int .u8 63, .int .u8 55, .int .u8 48, .int .u8 27, .int .u8 60, .int .u8 41, .int .u8 37, .int .u8 16, .int .u8 46, .int .u8 35, .int .u8 44, .int .u8 21, .int .u8 52, .int .u8 32, .int .u8 23, .int .u8 11, .int .u8 54, .int .u8 26, .int .u8 40, .int .u8 15, .int .u8 34, .int .u8 20, .int .u8 31, .int .u8 10, .int .u8 25, .int .u8 14, .int .u8 19, .int .u8 9, .int .u8 13, .int .u8 8, .int .u8 7, .int .u8 6] t frozen
   | o => o).modify 1 fun
   | .cells _ t frozen => .cells #[.int .u64 1, .int .u64 10, .int .u64 100, .int .u64 1000, .int .u64 10000, .int .u64 100000, .int .u64 1000000, .int .u64 10000000, .int .u64 100000000, .int .u64 1000000000, .int .u64 10000000000, .int .u64 100000000000, .int .u64 1000000000000, .int .u64 10000000000000, .int .u64 100000000000000, .int .u64 1000000000000000, .int .u64 10000000000000000, .int .u64 100000000000000000, .int .u64 1000000000000000000, .int .u64 10000000000000000000] t frozen
   | o => o).modify 3 fun
   | .cells _ t frozen => .cells #[.int .u8 128, .int .u8 191, .int .u8 160, .int .u8 191, .int .u8 128, .int .u8 159, .int .u8 144, .int .u8 191, .int .u8 128, .int .u8 143, .int .u8 0, .int .u8 0, .int .u8 0, .int .u8 0, .int .u8 0, .int .u8 0, .int .u8 0, .int .u8 0, .int .u8 0, .int .u8 0, .int .u8 0, .int .u8 0, .int .u8 0, .int .u8 0, .int .u8 0, .int .u8 0, .int .u8 0, .int .u8 0, .int .u8 0, .int .u8 0, .int .u8 0, .int .u8 0] t frozen
   | o => o).modify 2 fun
   | .cells _ t frozen => .cells (Go.Pinned.utf8FirstZ.map fun (n : Nat) => Value.int .u8 (n : Int)).toArray t frozen
   | o => o) }
theorem laid_met (os : Os) : laidMet Tryd.prog Rows.keyinfoEncodeRow.laid ((laidWorld os).forCall (fun _ _ => 0) ⟨#[], #[.agg #[.int .i64 0, .string ⟨#[]⟩, .string ⟨#[]⟩], .slice none 0 0], []⟩).memory :=
 laidMet_of_run' 8 (by kernel_rfl) (by kernel_rfl)
theorem reads (os : Os) {H : Type} (enc : TypeId × Value → H) : (DataW.whole enc Tryd.prog ((laidWorld os).forCall (fun _ _ => 0) ⟨#[], #[.agg #[.int .i64 0, .string ⟨#[]⟩, .string ⟨#[]⟩], .slice none 0 0], []⟩).memory Tryd.f3.params.toList Rows.keyinfoEncodeSpec.vars false (#[.agg #[.int .i64 0, .string ⟨#[]⟩, .string ⟨#[]⟩], .slice none 0 0] : Array Value).toList 8).isSome = true := by kernel_rfl
set_option maxRecDepth 100000 in
theorem lifted (os : Os) (started : os.Started) (H : Type) (enc : TypeId × Value → H) (F : Stop.Interp) :
  ReturnsInHanded {} Tryd.checked os 3 .any ((OpenSpec.ofChange Rows.keyinfoEncodeSpec).preRow enc Tryd.prog Tryd.f3 Rows.keyinfoEncodeRow.domain false Rows.keyinfoEncodeRow.laid) (((OpenSpec.ofChange Rows.keyinfoEncodeSpec).at F).post enc Tryd.prog Tryd.f3 false true false false) := by
 obtain ⟨x, hx⟩ := Option.isSome_iff_exists.1 (reads os enc)
 refine returnsInHanded_of_row (C := Tryd.checked) (s := OpenSpec.ofChange Rows.keyinfoEncodeSpec) own started (by kernel_rfl) Tryd.func3
  (witness_row_at (enc := enc) (C := Tryd.checked) false (laidWorld os) #[.agg #[.int .i64 0, .string ⟨#[]⟩, .string ⟨#[]⟩], .slice none 0 0] rfl (by kernel_rfl) (by kernel_rfl) (by kernel_rfl)
   (OpenSpec.preRow_of_cond 8 hx rfl (fun k hk => by cases hk) (by kernel_rfl) (laid_met os))) ?_
 intro W base args ds gs before hval hW _ _ _ hL hS _
 exact contract H enc W base args ds gs before hval hW hL hS
theorem and2 {a b : Bool} (ha : a = true) (hb : b = true) : (a && b) = true := by rw [ha, hb]; rfl
theorem k0_ : (Rows.keyinfoEncodeRow.wf (OpenSpec.ofChange ((OpenSpec.ofChange Rows.keyinfoEncodeSpec).bare))) = true := by kernel_rfl
theorem k1_ : (laidOutB Tryd.prog) = true := by kernel_rfl
theorem k2_ : (mapsRowed Tryd.prog) = true := by kernel_rfl
theorem k3_ : (Tryd.f3.params.all (Tryd.prog.readableRec ·)) = true := by kernel_rfl
theorem k4_ : (namedTie Tryd.prog Rows.keyinfoEncodeRow.named ((OpenSpec.ofChange Rows.keyinfoEncodeSpec).bare).vars) = true := by kernel_rfl
theorem k5_ : ((Rows.keyinfoEncodeRow.stops == [])) = true := by kernel_rfl
theorem k6_ : ((Tryd.prog.stops == [])) = true := by kernel_rfl
theorem k7_ : ((Rows.keyinfoEncodeRow.knobs == [])) = true := by kernel_rfl
theorem k8_ : ((Tryd.prog.stopKnobs == [])) = true := by kernel_rfl
theorem k9_ : ((Rows.keyinfoEncodeRow.inPlace == Tryd.prog.inPlace 3)) = true := by kernel_rfl
theorem k10_ : ((Rows.keyinfoEncodeRow.unfollowed == Tryd.prog.unfollowed 3)) = true := by kernel_rfl
theorem k11_ : ((Rows.keyinfoEncodeRow.recurses == Tryd.prog.recurses 3)) = true := by kernel_rfl
theorem k12_ : ((Rows.keyinfoEncodeRow.named == Tryd.prog.varsNamed 3)) = true := by kernel_rfl
theorem k13_ : ((Rows.keyinfoEncodeRow.maps == (Tryd.f3.params.toList ++ ((OpenSpec.ofChange Rows.keyinfoEncodeSpec).bare).plain.varTypes Tryd.prog).any (Tryd.prog.mapsRec ·))) = true := by kernel_rfl
theorem k14_ : ((Rows.keyinfoEncodeRow.ifaces == (Tryd.f3.params.toList ++ ((OpenSpec.ofChange Rows.keyinfoEncodeSpec).bare).plain.varTypes Tryd.prog).any (Tryd.prog.ifacesRec ·))) = true := by kernel_rfl
theorem k15_ : ((Rows.keyinfoEncodeRow.mapsOut == Tryd.prog.mapsAmong Tryd.f3.resultTypes.toList)) = true := by kernel_rfl
theorem k16_ : ((Rows.keyinfoEncodeRow.loops == (Tryd.f3.params.toList ++ ((OpenSpec.ofChange Rows.keyinfoEncodeSpec).bare).plain.varTypes Tryd.prog).any (Tryd.prog.loopsFrom ·))) = true := by kernel_rfl
theorem k17_ : ((Rows.keyinfoEncodeRow.wideKeys == (Tryd.f3.params.toList ++ ((OpenSpec.ofChange Rows.keyinfoEncodeSpec).bare).plain.varTypes Tryd.prog ++ Tryd.f3.resultTypes.toList).any (Tryd.prog.wideKeysFrom ·))) = true := by kernel_rfl
theorem k18_ : (((OpenSpec.ofChange Rows.keyinfoEncodeSpec).bare).vars.all (Tryd.prog.varReadable ·)) = true := by kernel_rfl
theorem k19_ : (Tryd.f3.resultTypes.all (fun t => Tryd.prog.readableRec t && decide (t < Tryd.prog.types.size))) = true := by kernel_rfl
theorem k20_ : ((Rows.keyinfoEncodeRow.ifacesOut == Tryd.f3.resultTypes.toList.any (Tryd.prog.ifacesRec ·))) = true := by kernel_rfl
theorem k21_ : ((Rows.keyinfoEncodeRow.loopsOut == Tryd.f3.resultTypes.toList.any (Tryd.prog.loopsFrom ·))) = true := by kernel_rfl
theorem k22_ : ((Rows.keyinfoEncodeRow.plainKeys == Tryd.prog.plainKeys)) = true := by kernel_rfl
theorem k23_ : (Rows.keyinfoEncodeRow.shortTexts.isNone) = true := by kernel_rfl
theorem k24_ : (Tryd.prog.stopsHeard) = true := by kernel_rfl
theorem k25_ : (Tryd.prog.mayEnter) = true := by kernel_rfl
theorem k26_ : ((Rows.keyinfoEncodeRow.lifted == Tryd.prog.liftsFinal)) = true := by kernel_rfl
theorem k27_ : ((Tryd.prog.make == some Rows.keyinfoEncodeRow.make)) = true := by kernel_rfl
theorem k28_ : ((Rows.keyinfoEncodeRow.kinds == (if Rows.keyinfoEncodeRow.domain.isEmpty then [] else Tryd.f3.params.toList.map fun t => match Tryd.prog.underlying t with | some (.int k) => some k | _ => none))) = true := by kernel_rfl
theorem k29_ : ((Rows.keyinfoEncodeRow.pinned == Rows.keyinfoEncodeRow.pinnedBy)) = true := by kernel_rfl
theorem k30_ : ((Rows.keyinfoEncodeRow.veiled == (Tryd.f3.params.toList ++ ((OpenSpec.ofChange Rows.keyinfoEncodeSpec).bare).plain.varTypes Tryd.prog ++ Tryd.f3.resultTypes.toList).any (Tryd.prog.veiledRec ·))) = true := by kernel_rfl
theorem k31_ : (Rows.keyinfoEncodeRow.veiledFits Tryd.prog Tryd.f3.params.toList (Tryd.f3.params.toList ++ ((OpenSpec.ofChange Rows.keyinfoEncodeSpec).bare).plain.varTypes Tryd.prog ++ Tryd.f3.resultTypes.toList)) = true := by kernel_rfl
set_option maxRecDepth 100000 in
theorem closed : joinedFacts Tryd.prog 3 Tryd.f3 (OpenSpec.ofChange Rows.keyinfoEncodeSpec).bare Rows.keyinfoEncodeRow = true := by
 unfold joinedFacts
 exact and2 (and2 (and2 (and2 (and2 (and2 (and2 (and2 (and2 (and2 (and2 (and2 (and2 (and2 (and2 (and2 (and2 (and2 (and2 (and2 (and2 (and2 (and2 (and2 (and2 (and2 (and2 (and2 (and2 (and2 (and2 (k0_) k1_) k2_) k3_) k4_) k5_) k6_) k7_) k8_) k9_) k10_) k11_) k12_) k13_) k14_) k15_) k16_) k17_) k18_) k19_) k20_) k21_) k22_) k23_) k24_) k25_) k26_) k27_) k28_) k29_) k30_) k31_
theorem said : Rows.KeyinfoEncodeSaid :=
 OpenClaim.holds_of_cond 3 Tryd.f3 rfl rfl rfl rfl rfl rfl rfl ⟨rfl, rfl, rfl, rfl, rfl⟩ rfl rfl rfl rfl rfl (by kernel_rfl) Tryd.func3 closed
  (of_decide_eq_true (by kernel_rfl)) (by unfold Func.isWrapper; rw [if_neg (of_decide_eq_false (by kernel_rfl))]; exact ⟨rfl, rfl⟩)
  (fun os started H enc _ F => by rw [OpenClaim.pre_eq_preRow]; exact lifted os started H enc F)
theorem plain (f : FuncId) (fn : Func) (hf : Tryd.pinned.checked.prog.funcNamed "certpath/certpathlaw14.KeyinfoEncode" = some f) (hfn : Tryd.pinned.checked.prog.funcs[f]? = some fn) :
  false = Tryd.pinned.checked.prog.looks [] ∧ ∀ (j : Nat) t, fn.params[j]? = some t → Tryd.pinned.checked.prog.wantsStandIn t = false := by
 obtain rfl : f = 3 := Option.some.inj ((show Tryd.prog.funcNamed "certpath/certpathlaw14.KeyinfoEncode" = some 3 by kernel_rfl).symm.trans hf) |>.symm
 obtain rfl : fn = Tryd.f3 := (Option.some.inj (Tryd.func3.symm.trans hfn)).symm
 refine ⟨by kernel_rfl, fun j t ht => ?_⟩
 rw [Tryd.params3] at ht
 have hm := Array.mem_of_getElem? ht
 simp only [List.mem_toArray, List.mem_cons, List.not_mem_nil, or_false] at hm
 rcases hm with rfl | rfl
 ·exact (show Tryd.prog.wantsStandIn 23 = false by kernel_rfl)
 ·exact (show Tryd.prog.wantsStandIn 24 = false by kernel_rfl)
theorem proved : Rows.KeyinfoEncodeCardSaid :=
 Claim7.holds_tied_plain_at .later [] _ _ _ _ said (fun _ h => by cases h) (by kernel_rfl) (fun _ h => by cases h) keyinfoEncode_row_tie rfl ⟨rfl, rfl⟩ (by kernel_rfl) rfl plain (by kernel_rfl)
end Go.Proofs.YtmgnihmjjijdoaaDoor.keyinfoEncode
