/- The law GnameBack holds (the tied card): whatever the arguments are, it returns true, and they read as they did. Conditions: the listed tables of Go's library hold what the program's text lays (tied by the card). -/
import Derived.Test.YtmgnihmjjijdoaaGreatDoorLibZ
import Derived.Test.YtmgnihmjjijdoaaGreatDoorGtI
import Derived.Test.YtmgnihmjjijdoaaGreatDoorGOidD
import Derived.Test.YtmgnihmjjijdoaaGreatDoorGOidS
import Derived.Test.YtmgnihmjjijdoaaGreatDoorCards
import Derived.Test.YtmgnihmjjijdoaaGreatDoorTie
import Derived.Deep.DeepHandedRow
namespace Go.Proofs.YtmgnihmjjijdoaaGreatDoor.gnameBack
open Go.RowKit Go.ChangeShapes Go.WideShapes Go.ChangeAt
open Go.ChangeMaps (open_string)

theorem own : ownKnob Tryz.prog.godebug = none := by kernel_rfl
theorem cells_ints : Tryz.prog.cellsOf 3 = 1 := by kernel_rfl

set_option maxRecDepth 100000 in
theorem contract (H : Type) (enc : TypeId × Value → H) (W : World) (base : Nat) (args : Array Value) (ds gs : List (DataW H)) (before : List MemPlace)
    (hval : ∀ (j : Nat) t v, Tryz.f4.params[j]? = some t → args[j]? = some v → Value.okWide Tryz.prog W .any base t v)
    (hW : DataW.Whole enc Tryz.prog Tryz.f4.params.toList Rows.gnameBackSpec.vars false W args.toList ds gs before) (hL : laidMetH Tryz.prog Rows.gnameBackRow.laid W) (hS : W.ShapedOpen Tryz.prog) :
    Calls Tryz.prog 4 args W fun e W' => ∃ v, e = .returned v ∧ Rows.gnameBackSpec.post enc Tryz.prog Tryz.f4 false true false false W args v W' := by
  have hW' := hW
  have hlt : ∀ x ∈ before, x.block < W.heap.size := fun x hx => hW.lt x hx
  obtain ⟨p, q, hA0, hV, rfl, hfz, hnd⟩ := hW
  have hA : DataW.TrodAll enc Tryz.prog W 0 (fun _ => true) true Tryz.f4.params.toList args.toList ds p := hA0
  rw [Tryz.params4] at hA hval
  obtain ⟨v0, vs0, d0, ds0, p0, q0, hargs, rfl, rfl, h0, r0⟩ := trodAll_cons hA
  obtain ⟨rfl, rfl, rfl⟩ := trodAll_nil r0
  obtain rfl : args = #[v0] := by cases args; simp_all
  obtain ⟨rfl, rfl⟩ := trodVars_none hV
  obtain ⟨l0, A0, n0, c0, rfl, k0, b0⟩ := open_intk Tryz.underlying27 Tryz.underlying3 cells_ints (hval 0 27 v0 rfl rfl) h0 (fun x hx => hlt x (by simp [hx]))
  refine (GnameBack_any l0 A0 n0 c0 W (mx_of hS) (tb_of hL rfl rfl) k0).mono fun e W' ⟨he, hb⟩ => ⟨_, he, ?_⟩
  exact law_post (tb := 4) (by kernel_rfl) (fun t ht => by
    rw [Tryz.params4] at ht
    simp only [List.mem_cons, List.not_mem_nil, or_false] at ht
    subst ht
    exact ⟨by kernel_rfl, of_decide_eq_true (by kernel_rfl)⟩) rfl rfl Tryz.underlying4 hW' rfl hb

/-- A world for the witness: the settled one, the tables holding what their initialisers lay. -/
noncomputable def laidWorld (os : Os) : World :=
  { World.holding Tryz.prog os ⟨#[], #[], []⟩ with heap := ((((((World.holding Tryz.prog os ⟨#[], #[], []⟩).heap.modify 4 fun
      | .cells _ t frozen => .cells #[.int .u8 0, .int .u8 1, .int .u8 28, .int .u8 2, .int .u8 29, .int .u8 14, .int .u8 24, .int .u8 3, .int .u8 30, .int .u8 22, .int .u8 20, .int .u8 15, .int .u8 25, .int .u8 17, .int .u8 4, .int .u8 8, .int .u8 31, .int .u8 27, .int .u8 13, .int .u8 23, .int .u8 21, .int .u8 19, .int .u8 16, .int .u8 7, .int .u8 26, .int .u8 12, .int .u8 18, .int .u8 6, .int .u8 11, .int .u8 5, .int .u8 10, .int .u8 9] t frozen
      | o => o).modify 5 fun
      | .cells _ t frozen => .cells #[.int .u8 0, .int .u8 1, .int .u8 56, .int .u8 2, .int .u8 57, .int .u8 49, .int .u8 28, .int .u8 3, .int .u8 61, .int .u8 58, .int .u8 42, .int .u8 50, .int .u8 38, .int .u8 29, .int .u8 17, .int .u8 4, .int .u8 62, .int .u8 47, .int .u8 59, .int .u8 36, .int .u8 45, .int .u8 43, .int .u8 51, .int .u8 22, .int .u8 53, .int .u8 39, .int .u8 33, .int .u8 30, .int .u8 24, .int .u8 18, .int .u8 12, .int .u8 5, .int .u8 63, .int .u8 55, .int .u8 48, .int .u8 27, .int .u8 60, .int .u8 41, .int .u8 37, .int .u8 16, .int .u8 46, .int .u8 35, .int .u8 44, .int .u8 21, .int .u8 52, .int .u8 32, .int .u8 23, .int .u8 11, .int .u8 54, .int .u8 26, .int .u8 40, .int .u8 15, .int .u8 34, .int .u8 20, .int .u8 31, .int .u8 10, .int .u8 25, .int .u8 14, .int .u8 19, .int .u8 9, .int .u8 13, .int .u8 8, .int .u8 7, .int .u8 6] t frozen
      | o => o).modify 3 fun
      | .cells _ t frozen => .cells #[.int .u64 1, .int .u64 10, .int .u64 100, .int .u64 1000, .int .u64 10000, .int .u64 100000, .int .u64 1000000, .int .u64 10000000, .int .u64 100000000, .int .u64 1000000000, .int .u64 10000000000, .int .u64 100000000000, .int .u64 1000000000000, .int .u64 10000000000000, .int .u64 100000000000000, .int .u64 1000000000000000, .int .u64 10000000000000000, .int .u64 100000000000000000, .int .u64 1000000000000000000, .int .u64 10000000000000000000] t frozen
      | o => o).modify 2 fun
      | .cells _ t frozen => .cells #[.int .u8 128, .int .u8 191, .int .u8 160, .int .u8 191, .int .u8 128, .int .u8 159, .int .u8 144, .int .u8 191, .int .u8 128, .int .u8 143, .int .u8 0, .int .u8 0, .int .u8 0, .int .u8 0, .int .u8 0, .int .u8 0, .int .u8 0, .int .u8 0, .int .u8 0, .int .u8 0, .int .u8 0, .int .u8 0, .int .u8 0, .int .u8 0, .int .u8 0, .int .u8 0, .int .u8 0, .int .u8 0, .int .u8 0, .int .u8 0, .int .u8 0, .int .u8 0] t frozen
      | o => o).modify 1 fun
      | .cells _ t frozen => .cells (Go.Pinned.utf8FirstZ.map fun (n : Nat) => Value.int .u8 (n : Int)).toArray t frozen
      | o => o) }
theorem laid_met (os : Os) : laidMet Tryz.prog Rows.gnameBackRow.laid ((laidWorld os).forCall (fun _ _ => 0) ⟨#[], #[.slice none 0 0], []⟩).memory :=
  laidMet_of_run' 8 (by kernel_rfl) (by kernel_rfl)
theorem reads (os : Os) {H : Type} (enc : TypeId × Value → H) : (DataW.whole enc Tryz.prog ((laidWorld os).forCall (fun _ _ => 0) ⟨#[], #[.slice none 0 0], []⟩).memory Tryz.f4.params.toList Rows.gnameBackSpec.vars false (#[.slice none 0 0] : Array Value).toList 8).isSome = true := by kernel_rfl

set_option maxRecDepth 100000 in
theorem lifted (os : Os) (started : os.Started) (H : Type) (enc : TypeId × Value → H) (F : Stop.Interp) :
    ReturnsInHanded {} Tryz.checked os 4 .any ((OpenSpec.ofChange Rows.gnameBackSpec).preRow enc Tryz.prog Tryz.f4 Rows.gnameBackRow.domain false Rows.gnameBackRow.laid) (((OpenSpec.ofChange Rows.gnameBackSpec).at F).post enc Tryz.prog Tryz.f4 false true false false) := by
  obtain ⟨x, hx⟩ := Option.isSome_iff_exists.1 (reads os enc)
  refine returnsInHanded_of_row (C := Tryz.checked) (s := OpenSpec.ofChange Rows.gnameBackSpec) own started (by kernel_rfl) Tryz.func4
    (witness_row_at (enc := enc) (C := Tryz.checked) false (laidWorld os) #[.slice none 0 0] rfl (by kernel_rfl) (by kernel_rfl) (by kernel_rfl)
      (OpenSpec.preRow_of_cond 8 hx rfl (fun k hk => by cases hk) (by kernel_rfl) (laid_met os))) ?_
  intro W base args ds gs before hval hW _ _ _ hL hS _
  exact contract H enc W base args ds gs before hval hW hL hS

theorem and2 {a b : Bool} (ha : a = true) (hb : b = true) : (a && b) = true := by rw [ha, hb]; rfl
theorem k0_ : (Rows.gnameBackRow.wf (OpenSpec.ofChange ((OpenSpec.ofChange Rows.gnameBackSpec).bare))) = true := by kernel_rfl
theorem k1_ : (laidOutB Tryz.prog) = true := by kernel_rfl
theorem k2_ : (mapsRowed Tryz.prog) = true := by kernel_rfl
theorem k3_ : (Tryz.f4.params.all (Tryz.prog.readableRec ·)) = true := by kernel_rfl
theorem k4_ : (namedTie Tryz.prog Rows.gnameBackRow.named ((OpenSpec.ofChange Rows.gnameBackSpec).bare).vars) = true := by kernel_rfl
theorem k5_ : ((Rows.gnameBackRow.stops == [])) = true := by kernel_rfl
theorem k6_ : ((Tryz.prog.stops == [])) = true := by kernel_rfl
theorem k7_ : ((Rows.gnameBackRow.knobs == [])) = true := by kernel_rfl
theorem k8_ : ((Tryz.prog.stopKnobs == [])) = true := by kernel_rfl
theorem k9_ : ((Rows.gnameBackRow.inPlace == Tryz.prog.inPlace 4)) = true := by kernel_rfl
theorem k10_ : ((Rows.gnameBackRow.unfollowed == Tryz.prog.unfollowed 4)) = true := by kernel_rfl
theorem k11_ : ((Rows.gnameBackRow.recurses == Tryz.prog.recurses 4)) = true := by kernel_rfl
theorem k12_ : ((Rows.gnameBackRow.named == Tryz.prog.varsNamed 4)) = true := by kernel_rfl
theorem k13_ : ((Rows.gnameBackRow.maps == (Tryz.f4.params.toList ++ ((OpenSpec.ofChange Rows.gnameBackSpec).bare).plain.varTypes Tryz.prog).any (Tryz.prog.mapsRec ·))) = true := by kernel_rfl
theorem k14_ : ((Rows.gnameBackRow.ifaces == (Tryz.f4.params.toList ++ ((OpenSpec.ofChange Rows.gnameBackSpec).bare).plain.varTypes Tryz.prog).any (Tryz.prog.ifacesRec ·))) = true := by kernel_rfl
theorem k15_ : ((Rows.gnameBackRow.mapsOut == Tryz.prog.mapsAmong Tryz.f4.resultTypes.toList)) = true := by kernel_rfl
theorem k16_ : ((Rows.gnameBackRow.loops == (Tryz.f4.params.toList ++ ((OpenSpec.ofChange Rows.gnameBackSpec).bare).plain.varTypes Tryz.prog).any (Tryz.prog.loopsFrom ·))) = true := by kernel_rfl
theorem k17_ : ((Rows.gnameBackRow.wideKeys == (Tryz.f4.params.toList ++ ((OpenSpec.ofChange Rows.gnameBackSpec).bare).plain.varTypes Tryz.prog ++ Tryz.f4.resultTypes.toList).any (Tryz.prog.wideKeysFrom ·))) = true := by kernel_rfl
theorem k18_ : (((OpenSpec.ofChange Rows.gnameBackSpec).bare).vars.all (Tryz.prog.varReadable ·)) = true := by kernel_rfl
theorem k19_ : (Tryz.f4.resultTypes.all (fun t => Tryz.prog.readableRec t && decide (t < Tryz.prog.types.size))) = true := by kernel_rfl
theorem k20_ : ((Rows.gnameBackRow.ifacesOut == Tryz.f4.resultTypes.toList.any (Tryz.prog.ifacesRec ·))) = true := by kernel_rfl
theorem k21_ : ((Rows.gnameBackRow.loopsOut == Tryz.f4.resultTypes.toList.any (Tryz.prog.loopsFrom ·))) = true := by kernel_rfl
theorem k22_ : ((Rows.gnameBackRow.plainKeys == Tryz.prog.plainKeys)) = true := by kernel_rfl
theorem k23_ : (Rows.gnameBackRow.shortTexts.isNone) = true := by kernel_rfl
theorem k24_ : (Tryz.prog.stopsHeard) = true := by kernel_rfl
theorem k25_ : (Tryz.prog.mayEnter) = true := by kernel_rfl
theorem k26_ : ((Rows.gnameBackRow.lifted == Tryz.prog.liftsFinal)) = true := by kernel_rfl
theorem k27_ : ((Tryz.prog.make == some Rows.gnameBackRow.make)) = true := by kernel_rfl
theorem k28_ : ((Rows.gnameBackRow.kinds == (if Rows.gnameBackRow.domain.isEmpty then [] else Tryz.f4.params.toList.map fun t => match Tryz.prog.underlying t with | some (.int k) => some k | _ => none))) = true := by kernel_rfl
theorem k29_ : ((Rows.gnameBackRow.pinned == Rows.gnameBackRow.pinnedBy)) = true := by kernel_rfl
theorem k30_ : ((Rows.gnameBackRow.veiled == (Tryz.f4.params.toList ++ ((OpenSpec.ofChange Rows.gnameBackSpec).bare).plain.varTypes Tryz.prog ++ Tryz.f4.resultTypes.toList).any (Tryz.prog.veiledRec ·))) = true := by kernel_rfl
theorem k31_ : (Rows.gnameBackRow.veiledFits Tryz.prog Tryz.f4.params.toList (Tryz.f4.params.toList ++ ((OpenSpec.ofChange Rows.gnameBackSpec).bare).plain.varTypes Tryz.prog ++ Tryz.f4.resultTypes.toList)) = true := by kernel_rfl
set_option maxRecDepth 100000 in
theorem closed : joinedFacts Tryz.prog 4 Tryz.f4 (OpenSpec.ofChange Rows.gnameBackSpec).bare Rows.gnameBackRow = true := by
  unfold joinedFacts
  exact and2 (and2 (and2 (and2 (and2 (and2 (and2 (and2 (and2 (and2 (and2 (and2 (and2 (and2 (and2 (and2 (and2 (and2 (and2 (and2 (and2 (and2 (and2 (and2 (and2 (and2 (and2 (and2 (and2 (and2 (and2 (k0_) k1_) k2_) k3_) k4_) k5_) k6_) k7_) k8_) k9_) k10_) k11_) k12_) k13_) k14_) k15_) k16_) k17_) k18_) k19_) k20_) k21_) k22_) k23_) k24_) k25_) k26_) k27_) k28_) k29_) k30_) k31_
theorem said : Rows.GnameBackSaid :=
  OpenClaim.holds_of_cond 4 Tryz.f4 rfl rfl rfl rfl rfl rfl rfl ⟨rfl, rfl, rfl, rfl, rfl⟩ rfl rfl rfl rfl rfl (by kernel_rfl) Tryz.func4 closed
    (of_decide_eq_true (by kernel_rfl)) (by unfold Func.isWrapper; rw [if_neg (of_decide_eq_false (by kernel_rfl))]; exact ⟨rfl, rfl⟩)
    (fun os started H enc _ F => by rw [OpenClaim.pre_eq_preRow]; exact lifted os started H enc F)

/-- No parameter wants a stand-in; the program's own looks are off: what the card asks. -/
theorem plain (f : FuncId) (fn : Func) (hf : Tryz.pinned.checked.prog.funcNamed "certpath/certpathlaw09.GnameBack" = some f) (hfn : Tryz.pinned.checked.prog.funcs[f]? = some fn) :
    false = Tryz.pinned.checked.prog.looks [] ∧ ∀ (j : Nat) t, fn.params[j]? = some t → Tryz.pinned.checked.prog.wantsStandIn t = false := by
  obtain rfl : f = 4 := Option.some.inj ((show Tryz.prog.funcNamed "certpath/certpathlaw09.GnameBack" = some 4 by kernel_rfl).symm.trans hf) |>.symm
  obtain rfl : fn = Tryz.f4 := (Option.some.inj (Tryz.func4.symm.trans hfn)).symm
  refine ⟨by kernel_rfl, fun j t ht => ?_⟩
  rw [Tryz.params4] at ht
  have hm := Array.mem_of_getElem? ht
  simp only [List.mem_toArray, List.mem_cons, List.not_mem_nil, or_false] at hm
  subst hm
  exact (show Tryz.prog.wantsStandIn 27 = false by kernel_rfl)

theorem proved : Rows.GnameBackCardSaid :=
  Claim7.holds_tied_plain_at .later [] _ _ _ _ said (fun _ h => by cases h) (by kernel_rfl) (fun _ h => by cases h) gnameBack_row_tie rfl ⟨rfl, rfl⟩ (by kernel_rfl) rfl plain (by kernel_rfl)
end Go.Proofs.YtmgnihmjjijdoaaGreatDoor.gnameBack
