/- The law SubtreeBack holds (the tied card): whatever the arguments are, it returns true, and they read as they did. Conditions: the listed tables of Go's library hold what the program's text lays (tied by the card). -/
import Derived.Test.YtahamclodagihaaGreatDoorTSbP
import Derived.Test.YtahamclodagihaaGreatDoorTGOidD
import Derived.Test.YtahamclodagihaaGreatDoorTGOidS
import Derived.Test.YtahamclodagihaaGreatDoorCards
import Derived.Test.YtahamclodagihaaGreatDoorTie
import Derived.Deep.DeepHandedRow
namespace Go.Proofs.YtahamclodagihaaGreatDoor.subtreeBack
open Go.RowKit Go.ChangeShapes Go.WideShapes Go.ChangeAt
open Go.ChangeMaps (open_string)
theorem own : ownKnob Tryz.prog.godebug = none := by kernel_rfl
theorem cells_ints : Tryz.prog.cellsOf 3 = 1 := by kernel_rfl
set_option maxRecDepth 100000 in
theorem contract (H : Type) (enc : TypeId × Value → H) (W : World) (base : Nat) (args : Array Value) (ds gs : List (DataW H)) (before : List MemPlace)
  (hval : ∀ (j : Nat) t v, Tryz.f7.params[j]? = some t → args[j]? = some v → Value.okWide Tryz.prog W .any base t v)
  (hW : DataW.Whole enc Tryz.prog Tryz.f7.params.toList Rows.subtreeBackSpec.vars false W args.toList ds gs before) (hL : laidMetH Tryz.prog Rows.subtreeBackRow.laid W) (hS : W.ShapedOpen Tryz.prog) :
  Calls Tryz.prog 7 args W fun e W' => ∃ v, e = .returned v ∧ Rows.subtreeBackSpec.post enc Tryz.prog Tryz.f7 false true false false W args v W' := by
 have hW' := hW
 have hlt : ∀ x ∈ before, x.block < W.heap.size := fun x hx => hW.lt x hx
 obtain ⟨p, q, hA0, hV, rfl, hfz, hnd⟩ := hW
 have hA : DataW.TrodAll enc Tryz.prog W 0 (fun _ => true) true Tryz.f7.params.toList args.toList ds p := hA0
 rw [Tryz.params7] at hA hval
 obtain ⟨v0, vs0, d0, ds0, p0, q0, hargs, rfl, rfl, h0, r0⟩ := trodAll_cons hA
 obtain ⟨rfl, rfl, rfl⟩ := trodAll_nil r0
 obtain rfl : args = #[v0] := by cases args; simp_all
 obtain ⟨rfl, rfl⟩ := trodVars_none hV
 obtain ⟨l0, A0, n0, c0, rfl, k0, b0⟩ := open_intk Tryz.underlying25 Tryz.underlying3 cells_ints (hval 0 25 v0 rfl rfl) h0 (fun x hx => hlt x (by simp [hx]))
 refine (SubtreeBack_any l0 A0 n0 c0 W (mx_of hS) (tb_of hL rfl rfl) k0).mono fun e W' ⟨he, hb⟩ => ⟨_, he, ?_⟩
 exact law_post (tb := 4) (by kernel_rfl) (fun t ht => by
  rw [Tryz.params7] at ht
  simp only [List.mem_cons, List.not_mem_nil, or_false] at ht
  subst ht
  exact ⟨by kernel_rfl, of_decide_eq_true (by kernel_rfl)⟩) rfl rfl Tryz.underlying4 hW' rfl hb
noncomputable def laidWorld (os : Os) : World :=
 { World.holding Tryz.prog os ⟨#[], #[], []⟩ with heap := ((((((World.holding Tryz.prog os ⟨#[], #[], []⟩).heap.modify 4 fun
   | .cells _ t frozen => .cells #[.int .u8 0, .int .u8 1, .int .u8 28, .int .u8 2, .int .u8 29, .int .u8 14, .int .u8 24, .int .u8 3, .int .u8 30, .int .u8 22, .int .u8 20, .int .u8 15, .int .u8 25, .int .u8 17, .int .u8 4, .int .u8 8, .int .u8 31, .int .u8 27, .int .u8 13, .int .u8 23, .int .u8 21, .int .u8 19, .int .u8 16, .int .u8 7, .int .u8 26, .int .u8 12, .int .u8 18, .int .u8 6, .int .u8 11, .int .u8 5, .int .u8 10, .int .u8 9] t frozen
   | o => o).modify 5 fun
   | .cells _ t frozen => .cells #[.int .u8 0, .int .u8 1, .int .u8 56, .int .u8 2, .int .u8 57, .int .u8 49, .int .u8 28, .int .u8 3, .int .u8 61, .int .u8 58, .int .u8 42, .int .u8 50, .int .u8 38, .int .u8 29, .int .u8 17, .int .u8 4, .int .u8 62, .int .u8 47, .int .u8 59, .int .u8 36, .int .u8 45, .int .u8 43, .int .u8 51, .int .u8 22, .int .u8 53, .int .u8 39, .int .u8 33, .int .u8 30, .int .u8 24, .int .u8 18, .int .u8 12, .int .u8 5, .int .u8 63, .int .u8 55, .int .u8 48, .int .u8 27, .int .u8 60, .int .u8 41, .int .u8 37, .int .u8 16, .int .u8 46, .int .u8 35, .int .u8 44, .int .u8 21, .int .u8 52, .int .u8 32, .int .u8 23, .int .u8 11, .int .u8 54, .int .u8 26, .int .u8 40, .int .u8 15, .int .u8 34, .int .u8 20, .int .u8 31, .int .u8 10, .int .u8 25, .int .u8 14, .int .u8 19, .int .u8 9, .int .u8 13, .int .u8 8, .int .u8 7, .int .u8 6] t frozen
   | o => o).modify 3 fun
   | .cells _ t frozen => .cells #[.int .u64 1, .int .u64 10, .int .u64 100, .int .u64 1000, .int .u64 10000, .int .u64 100000, .int .u64 1000000, .int .u64 10000000, .int .u64 100000000, .int .u64 1000000000, .int .u64 10000000000, .int .u64 100000000000, .int .u64 1000000000000, .int .u64 10000000000000, .int .u64 100000000000000, .int .u64 1000000000000000, .int .u64 10000000000000000, .int .u64 100000000000000000, .int .u64 1000000000000000000, .int .u64 10000000000000000000] t frozen
   | o => o).modify 2 fun
   | .cells _ t frozen => .cells #[.int .u8 128, .int .u8 191, .int .u8 160, .int .u8 191, .int .u8 128, .int .u8 159, .int .u8 144, .int .u8 191, .int .u8 128, .int .u8 143, .int .u8 0, .int .u8 0, .int .u8 0, .int .u8 0, .int .u8 0, .int .u8 0, .int .u8 0, .int .u8 0, .int .u8 0, .int .u8 0, .int .u8 0, .int .u8 0, .int .u8 0, .int .u8 0, .int .u8 0, .int .u8 0, .int .u8 0, .int .u8 0, .int .u8 0, .int .u8 0, .int .u8 0, .int .u8 0] t frozen
   | o => o).modify 1 fun
   | .cells _ t frozen => .cells (Go.Pinned.utf8FirstZ.map fun (n : Nat) => Value.int .u8 (n : Int)).toArray t frozen
   | o => o) }
theorem laid_met (os : Os) : laidMet Tryz.prog Rows.subtreeBackRow.laid ((laidWorld os).forCall (fun _ _ => 0) ⟨#[], #[.slice none 0 0], []⟩).memory :=
 laidMet_of_run' 8 (by kernel_rfl) (by kernel_rfl)
theorem reads (os : Os) {H : Type} (enc : TypeId × Value → H) : (DataW.whole enc Tryz.prog ((laidWorld os).forCall (fun _ _ => 0) ⟨#[], #[.slice none 0 0], []⟩).memory Tryz.f7.params.toList Rows.subtreeBackSpec.vars false (#[.slice none 0 0] : Array Value).toList 8).isSome = true := by kernel_rfl
set_option maxRecDepth 100000 in
theorem lifted (os : Os) (started : os.Started) (H : Type) (enc : TypeId × Value → H) (F : Stop.Interp) :
  ReturnsInHanded {} Tryz.checked os 7 .any ((OpenSpec.ofChange Rows.subtreeBackSpec).preRow enc Tryz.prog Tryz.f7 Rows.subtreeBackRow.domain false Rows.subtreeBackRow.laid) (((OpenSpec.ofChange Rows.subtreeBackSpec).at F).post enc Tryz.prog Tryz.f7 false true false false) := by
 obtain ⟨x, hx⟩ := Option.isSome_iff_exists.1 (reads os enc)
 refine returnsInHanded_of_row (C := Tryz.checked) (s := OpenSpec.ofChange Rows.subtreeBackSpec) own started (by kernel_rfl) Tryz.func7
  (witness_row_at (enc := enc) (C := Tryz.checked) false (laidWorld os) #[.slice none 0 0] rfl (by kernel_rfl) (by kernel_rfl) (by kernel_rfl)
   (OpenSpec.preRow_of_cond 8 hx rfl (fun k hk => by cases hk) (by kernel_rfl) (laid_met os))) ?_
 intro W base args ds gs before hval hW _ _ _ hL hS _
 exact contract H enc W base args ds gs before hval hW hL hS
theorem and2 {a b : Bool} (ha : a = true) (hb : b = true) : (a && b) = true := by rw [ha, hb]; rfl
theorem k0_ : (Rows.subtreeBackRow.wf (OpenSpec.ofChange ((OpenSpec.ofChange Rows.subtreeBackSpec).bare))) = true := by kernel_rfl
theorem k1_ : (laidOutB Tryz.prog) = true := by kernel_rfl
theorem k2_ : (mapsRowed Tryz.prog) = true := by kernel_rfl
theorem k3_ : (Tryz.f7.params.all (Tryz.prog.readableRec ·)) = true := by kernel_rfl
theorem k4_ : (namedTie Tryz.prog Rows.subtreeBackRow.named ((OpenSpec.ofChange Rows.subtreeBackSpec).bare).vars) = true := by kernel_rfl
theorem k5_ : ((Rows.subtreeBackRow.stops == [])) = true := by kernel_rfl
theorem k6_ : ((Tryz.prog.stops == [])) = true := by kernel_rfl
theorem k7_ : ((Rows.subtreeBackRow.knobs == [])) = true := by kernel_rfl
theorem k8_ : ((Tryz.prog.stopKnobs == [])) = true := by kernel_rfl
theorem k9_ : ((Rows.subtreeBackRow.inPlace == Tryz.prog.inPlace 7)) = true := by kernel_rfl
theorem k10_ : ((Rows.subtreeBackRow.unfollowed == Tryz.prog.unfollowed 7)) = true := by kernel_rfl
theorem k11_ : ((Rows.subtreeBackRow.recurses == Tryz.prog.recurses 7)) = true := by kernel_rfl
theorem k12_ : ((Rows.subtreeBackRow.named == Tryz.prog.varsNamed 7)) = true := by kernel_rfl
theorem k13_ : ((Rows.subtreeBackRow.maps == (Tryz.f7.params.toList ++ ((OpenSpec.ofChange Rows.subtreeBackSpec).bare).plain.varTypes Tryz.prog).any (Tryz.prog.mapsRec ·))) = true := by kernel_rfl
theorem k14_ : ((Rows.subtreeBackRow.ifaces == (Tryz.f7.params.toList ++ ((OpenSpec.ofChange Rows.subtreeBackSpec).bare).plain.varTypes Tryz.prog).any (Tryz.prog.ifacesRec ·))) = true := by kernel_rfl
theorem k15_ : ((Rows.subtreeBackRow.mapsOut == Tryz.prog.mapsAmong Tryz.f7.resultTypes.toList)) = true := by kernel_rfl
theorem k16_ : ((Rows.subtreeBackRow.loops == (Tryz.f7.params.toList ++ ((OpenSpec.ofChange Rows.subtreeBackSpec).bare).plain.varTypes Tryz.prog).any (Tryz.prog.loopsFrom ·))) = true := by kernel_rfl
theorem k17_ : ((Rows.subtreeBackRow.wideKeys == (Tryz.f7.params.toList ++ ((OpenSpec.ofChange Rows.subtreeBackSpec).bare).plain.varTypes Tryz.prog ++ Tryz.f7.resultTypes.toList).any (Tryz.prog.wideKeysFrom ·))) = true := by kernel_rfl
theorem k18_ : (((OpenSpec.ofChange Rows.subtreeBackSpec).bare).vars.all (Tryz.prog.varReadable ·)) = true := by kernel_rfl
theorem k19_ : (Tryz.f7.resultTypes.all (fun t => Tryz.prog.readableRec t && decide (t < Tryz.prog.types.size))) = true := by kernel_rfl
theorem k20_ : ((Rows.subtreeBackRow.ifacesOut == Tryz.f7.resultTypes.toList.any (Tryz.prog.ifacesRec ·))) = true := by kernel_rfl
theorem k21_ : ((Rows.subtreeBackRow.loopsOut == Tryz.f7.resultTypes.toList.any (Tryz.prog.loopsFrom ·))) = true := by kernel_rfl
theorem k22_ : ((Rows.subtreeBackRow.plainKeys == Tryz.prog.plainKeys)) = true := by kernel_rfl
theorem k23_ : (Rows.subtreeBackRow.shortTexts.isNone) = true := by kernel_rfl
theorem k24_ : (Tryz.prog.stopsHeard) = true := by kernel_rfl
theorem k25_ : (Tryz.prog.mayEnter) = true := by kernel_rfl
theorem k26_ : ((Rows.subtreeBackRow.lifted == Tryz.prog.liftsFinal)) = true := by kernel_rfl
theorem k27_ : ((Tryz.prog.make == some Rows.subtreeBackRow.make)) = true := by kernel_rfl
theorem k28_ : ((Rows.subtreeBackRow.kinds == (if Rows.subtreeBackRow.domain.isEmpty then [] else Tryz.f7.params.toList.map fun t => match Tryz.prog.underlying t with | some (.int k) => some k | _ => none))) = true := by kernel_rfl
theorem k29_ : ((Rows.subtreeBackRow.pinned == Rows.subtreeBackRow.pinnedBy)) = true := by kernel_rfl
theorem k30_ : ((Rows.subtreeBackRow.veiled == (Tryz.f7.params.toList ++ ((OpenSpec.ofChange Rows.subtreeBackSpec).bare).plain.varTypes Tryz.prog ++ Tryz.f7.resultTypes.toList).any (Tryz.prog.veiledRec ·))) = true := by kernel_rfl
theorem k31_ : (Rows.subtreeBackRow.veiledFits Tryz.prog Tryz.f7.params.toList (Tryz.f7.params.toList ++ ((OpenSpec.ofChange Rows.subtreeBackSpec).bare).plain.varTypes Tryz.prog ++ Tryz.f7.resultTypes.toList)) = true := by kernel_rfl
set_option maxRecDepth 100000 in
theorem closed : joinedFacts Tryz.prog 7 Tryz.f7 (OpenSpec.ofChange Rows.subtreeBackSpec).bare Rows.subtreeBackRow = true := by
 unfold joinedFacts
 exact and2 (and2 (and2 (and2 (and2 (and2 (and2 (and2 (and2 (and2 (and2 (and2 (and2 (and2 (and2 (and2 (and2 (and2 (and2 (and2 (and2 (and2 (and2 (and2 (and2 (and2 (and2 (and2 (and2 (and2 (and2 (k0_) k1_) k2_) k3_) k4_) k5_) k6_) k7_) k8_) k9_) k10_) k11_) k12_) k13_) k14_) k15_) k16_) k17_) k18_) k19_) k20_) k21_) k22_) k23_) k24_) k25_) k26_) k27_) k28_) k29_) k30_) k31_
theorem said : Rows.SubtreeBackSaid :=
 OpenClaim.holds_of_cond 7 Tryz.f7 rfl rfl rfl rfl rfl rfl rfl ⟨rfl, rfl, rfl, rfl, rfl⟩ rfl rfl rfl rfl rfl (by kernel_rfl) Tryz.func7 closed
  (of_decide_eq_true (by kernel_rfl)) (by unfold Func.isWrapper; rw [if_neg (of_decide_eq_false (by kernel_rfl))]; exact ⟨rfl, rfl⟩)
  (fun os started H enc _ F => by rw [OpenClaim.pre_eq_preRow]; exact lifted os started H enc F)
theorem plain (f : FuncId) (fn : Func) (hf : Tryz.pinned.checked.prog.funcNamed "certpath/certpathlaw10.SubtreeBack" = some f) (hfn : Tryz.pinned.checked.prog.funcs[f]? = some fn) :
  true = Tryz.pinned.checked.prog.looks [] ∧ ∀ (j : Nat) t, fn.params[j]? = some t → Tryz.pinned.checked.prog.wantsStandIn t = false := by
 obtain rfl : f = 7 := Option.some.inj ((show Tryz.prog.funcNamed "certpath/certpathlaw10.SubtreeBack" = some 7 by kernel_rfl).symm.trans hf) |>.symm
 obtain rfl : fn = Tryz.f7 := (Option.some.inj (Tryz.func7.symm.trans hfn)).symm
 refine ⟨by kernel_rfl, fun j t ht => ?_⟩
 rw [Tryz.params7] at ht
 have hm := Array.mem_of_getElem? ht
 simp only [List.mem_toArray, List.mem_cons, List.not_mem_nil, or_false] at hm
 subst hm
 exact (show Tryz.prog.wantsStandIn 25 = false by kernel_rfl)
theorem proved : Rows.SubtreeBackCardSaid :=
 Claim7.holds_tied_plain_at .later [] _ _ _ _ said (fun _ h => by cases h) (by kernel_rfl) (fun _ h => by cases h) subtreeBack_row_tie rfl ⟨rfl, rfl⟩ (by kernel_rfl) rfl plain (by kernel_rfl)
end Go.Proofs.YtahamclodagihaaGreatDoor.subtreeBack
