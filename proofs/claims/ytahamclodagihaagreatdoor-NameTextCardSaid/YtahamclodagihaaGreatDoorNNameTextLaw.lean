/- The law NameText holds (the tied card): whatever the arguments are, it returns true, and they read as they did. Conditions: the listed tables of Go's library hold what the program's text lays (tied by the card). -/
import Derived.Test.YtahamclodagihaaGreatDoorNNtE
import Derived.Test.YtahamclodagihaaGreatDoorNGOidD
import Derived.Test.YtahamclodagihaaGreatDoorCards
import Derived.Test.YtahamclodagihaaGreatDoorTie
import Derived.Deep.DeepHandedRow
namespace Go.Proofs.YtahamclodagihaaGreatDoor.nameText
open Go.RowKit Go.ChangeShapes Go.WideShapes Go.ChangeAt
open Go.ChangeMaps (open_string)
theorem own : ownKnob Tryz.prog.godebug = none := by kernel_rfl
theorem cells_ints : Tryz.prog.cellsOf 3 = 1 := by kernel_rfl
set_option maxRecDepth 100000 in
theorem contract (H : Type) (enc : TypeId × Value → H) (W : World) (base : Nat) (args : Array Value) (ds gs : List (DataW H)) (before : List MemPlace)
  (hval : ∀ (j : Nat) t v, Tryz.f4.params[j]? = some t → args[j]? = some v → Value.okWide Tryz.prog W .any base t v)
  (hW : DataW.Whole enc Tryz.prog Tryz.f4.params.toList Rows.nameTextSpec.vars false W args.toList ds gs before) (_hL : laidMetH Tryz.prog Rows.nameTextRow.laid W) (hS : W.ShapedOpen Tryz.prog) :
  Calls Tryz.prog 4 args W fun e W' => ∃ v, e = .returned v ∧ Rows.nameTextSpec.post enc Tryz.prog Tryz.f4 false true false false W args v W' := by
 have hW' := hW
 have hlt : ∀ x ∈ before, x.block < W.heap.size := fun x hx => hW.lt x hx
 obtain ⟨p, q, hA0, hV, rfl, hfz, hnd⟩ := hW
 have hA : DataW.TrodAll enc Tryz.prog W 0 (fun _ => true) true Tryz.f4.params.toList args.toList ds p := hA0
 rw [Tryz.params4] at hA hval
 obtain ⟨v0, vs0, d0, ds0, p0, q0, hargs, rfl, rfl, h0, r0⟩ := trodAll_cons hA
 obtain ⟨v1, vs1, d1, ds1, p1, q1, rfl, rfl, rfl, h1, r1⟩ := trodAll_cons r0
 obtain ⟨rfl, rfl, rfl⟩ := trodAll_nil r1
 obtain rfl : args = #[v0, v1] := by cases args; simp_all
 obtain ⟨rfl, rfl⟩ := trodVars_none hV
 obtain ⟨l0, A0, c0, rfl, k0⟩ := open_name (hval 0 24 v0 rfl rfl) h0
 obtain ⟨l1, A1, n1, c1, rfl, k1, b1⟩ := open_intk Tryz.underlying25 Tryz.underlying3 cells_ints (hval 1 25 v1 rfl rfl) h1 (fun x hx => hlt x (by simp [hx]))
 refine (NameText_any l0 A0 c0 l1 A1 n1 c1 W (mx_of hS) k0 k1).mono fun e W' ⟨he, hb⟩ => ⟨_, he, ?_⟩
 exact law_post (tb := 4) (by kernel_rfl) (fun t ht => by
  rw [Tryz.params4] at ht
  simp only [List.mem_cons, List.not_mem_nil, or_false] at ht
  rcases ht with rfl | rfl <;> exact ⟨by kernel_rfl, of_decide_eq_true (by kernel_rfl)⟩) rfl rfl Tryz.underlying4 hW' rfl hb
noncomputable def laidWorld (os : Os) : World :=
 { World.holding Tryz.prog os ⟨#[], #[], []⟩ with heap := (((World.holding Tryz.prog os ⟨#[], #[], []⟩).heap.modify 2 fun
   | .cells _ t frozen => .cells #[.int .u8 128, .int .u8 191, .int .u8 160, .int .u8 191, .int .u8 128, .int .u8 159, .int .u8 144, .int .u8 191, .int .u8 128, .int .u8 143, .int .u8 0, .int .u8 0, .int .u8 0, .int .u8 0, .int .u8 0, .int .u8 0, .int .u8 0, .int .u8 0, .int .u8 0, .int .u8 0, .int .u8 0, .int .u8 0, .int .u8 0, .int .u8 0, .int .u8 0, .int .u8 0, .int .u8 0, .int .u8 0, .int .u8 0, .int .u8 0, .int .u8 0, .int .u8 0] t frozen
   | o => o).modify 1 fun
   | .cells _ t frozen => .cells (Go.Pinned.utf8FirstZ.map fun (n : Nat) => Value.int .u8 (n : Int)).toArray t frozen
   | o => o) }
theorem laid_met (os : Os) : laidMet Tryz.prog Rows.nameTextRow.laid ((laidWorld os).forCall (fun _ _ => 0) ⟨#[], #[.agg #[.slice none 0 0], .slice none 0 0], []⟩).memory :=
 laidMet_of_run' 8 (by kernel_rfl) (by kernel_rfl)
theorem reads (os : Os) {H : Type} (enc : TypeId × Value → H) : (DataW.whole enc Tryz.prog ((laidWorld os).forCall (fun _ _ => 0) ⟨#[], #[.agg #[.slice none 0 0], .slice none 0 0], []⟩).memory Tryz.f4.params.toList Rows.nameTextSpec.vars false (#[.agg #[.slice none 0 0], .slice none 0 0] : Array Value).toList 8).isSome = true := by kernel_rfl
set_option maxRecDepth 100000 in
theorem lifted (os : Os) (started : os.Started) (H : Type) (enc : TypeId × Value → H) (F : Stop.Interp) :
  ReturnsInHanded {} Tryz.checked os 4 .any ((OpenSpec.ofChange Rows.nameTextSpec).preRow enc Tryz.prog Tryz.f4 Rows.nameTextRow.domain false Rows.nameTextRow.laid) (((OpenSpec.ofChange Rows.nameTextSpec).at F).post enc Tryz.prog Tryz.f4 false true false false) := by
 obtain ⟨x, hx⟩ := Option.isSome_iff_exists.1 (reads os enc)
 refine returnsInHanded_of_row (C := Tryz.checked) (s := OpenSpec.ofChange Rows.nameTextSpec) own started (by kernel_rfl) Tryz.func4
  (witness_row_at (enc := enc) (C := Tryz.checked) false (laidWorld os) #[.agg #[.slice none 0 0], .slice none 0 0] rfl (by kernel_rfl) (by kernel_rfl) (by kernel_rfl)
   (OpenSpec.preRow_of_cond 8 hx rfl (fun k hk => by cases hk) (by kernel_rfl) (laid_met os))) ?_
 intro W base args ds gs before hval hW _ _ _ hL hS _
 exact contract H enc W base args ds gs before hval hW hL hS
theorem and2 {a b : Bool} (ha : a = true) (hb : b = true) : (a && b) = true := by rw [ha, hb]; rfl
theorem k0_ : (Rows.nameTextRow.wf (OpenSpec.ofChange ((OpenSpec.ofChange Rows.nameTextSpec).bare))) = true := by kernel_rfl
theorem k1_ : (laidOutB Tryz.prog) = true := by kernel_rfl
theorem k2_ : (mapsRowed Tryz.prog) = true := by kernel_rfl
theorem k3_ : (Tryz.f4.params.all (Tryz.prog.readableRec ·)) = true := by kernel_rfl
theorem k4_ : (namedTie Tryz.prog Rows.nameTextRow.named ((OpenSpec.ofChange Rows.nameTextSpec).bare).vars) = true := by kernel_rfl
theorem k5_ : ((Rows.nameTextRow.stops == [])) = true := by kernel_rfl
theorem k6_ : ((Tryz.prog.stops == [])) = true := by kernel_rfl
theorem k7_ : ((Rows.nameTextRow.knobs == [])) = true := by kernel_rfl
theorem k8_ : ((Tryz.prog.stopKnobs == [])) = true := by kernel_rfl
theorem k9_ : ((Rows.nameTextRow.inPlace == Tryz.prog.inPlace 4)) = true := by kernel_rfl
theorem k10_ : ((Rows.nameTextRow.unfollowed == Tryz.prog.unfollowed 4)) = true := by kernel_rfl
theorem k11_ : ((Rows.nameTextRow.recurses == Tryz.prog.recurses 4)) = true := by kernel_rfl
theorem k12_ : ((Rows.nameTextRow.named == Tryz.prog.varsNamed 4)) = true := by kernel_rfl
theorem k13_ : ((Rows.nameTextRow.maps == (Tryz.f4.params.toList ++ ((OpenSpec.ofChange Rows.nameTextSpec).bare).plain.varTypes Tryz.prog).any (Tryz.prog.mapsRec ·))) = true := by kernel_rfl
theorem k14_ : ((Rows.nameTextRow.ifaces == (Tryz.f4.params.toList ++ ((OpenSpec.ofChange Rows.nameTextSpec).bare).plain.varTypes Tryz.prog).any (Tryz.prog.ifacesRec ·))) = true := by kernel_rfl
theorem k15_ : ((Rows.nameTextRow.mapsOut == Tryz.prog.mapsAmong Tryz.f4.resultTypes.toList)) = true := by kernel_rfl
theorem k16_ : ((Rows.nameTextRow.loops == (Tryz.f4.params.toList ++ ((OpenSpec.ofChange Rows.nameTextSpec).bare).plain.varTypes Tryz.prog).any (Tryz.prog.loopsFrom ·))) = true := by kernel_rfl
theorem k17_ : ((Rows.nameTextRow.wideKeys == (Tryz.f4.params.toList ++ ((OpenSpec.ofChange Rows.nameTextSpec).bare).plain.varTypes Tryz.prog ++ Tryz.f4.resultTypes.toList).any (Tryz.prog.wideKeysFrom ·))) = true := by kernel_rfl
theorem k18_ : (((OpenSpec.ofChange Rows.nameTextSpec).bare).vars.all (Tryz.prog.varReadable ·)) = true := by kernel_rfl
theorem k19_ : (Tryz.f4.resultTypes.all (fun t => Tryz.prog.readableRec t && decide (t < Tryz.prog.types.size))) = true := by kernel_rfl
theorem k20_ : ((Rows.nameTextRow.ifacesOut == Tryz.f4.resultTypes.toList.any (Tryz.prog.ifacesRec ·))) = true := by kernel_rfl
theorem k21_ : ((Rows.nameTextRow.loopsOut == Tryz.f4.resultTypes.toList.any (Tryz.prog.loopsFrom ·))) = true := by kernel_rfl
theorem k22_ : ((Rows.nameTextRow.plainKeys == Tryz.prog.plainKeys)) = true := by kernel_rfl
theorem k23_ : (Rows.nameTextRow.shortTexts.isNone) = true := by kernel_rfl
theorem k24_ : (Tryz.prog.stopsHeard) = true := by kernel_rfl
theorem k25_ : (Tryz.prog.mayEnter) = true := by kernel_rfl
theorem k26_ : ((Rows.nameTextRow.lifted == Tryz.prog.liftsFinal)) = true := by kernel_rfl
theorem k27_ : ((Tryz.prog.make == some Rows.nameTextRow.make)) = true := by kernel_rfl
theorem k28_ : ((Rows.nameTextRow.kinds == (if Rows.nameTextRow.domain.isEmpty then [] else Tryz.f4.params.toList.map fun t => match Tryz.prog.underlying t with | some (.int k) => some k | _ => none))) = true := by kernel_rfl
theorem k29_ : ((Rows.nameTextRow.pinned == Rows.nameTextRow.pinnedBy)) = true := by kernel_rfl
theorem k30_ : ((Rows.nameTextRow.veiled == (Tryz.f4.params.toList ++ ((OpenSpec.ofChange Rows.nameTextSpec).bare).plain.varTypes Tryz.prog ++ Tryz.f4.resultTypes.toList).any (Tryz.prog.veiledRec ·))) = true := by kernel_rfl
theorem k31_ : (Rows.nameTextRow.veiledFits Tryz.prog Tryz.f4.params.toList (Tryz.f4.params.toList ++ ((OpenSpec.ofChange Rows.nameTextSpec).bare).plain.varTypes Tryz.prog ++ Tryz.f4.resultTypes.toList)) = true := by kernel_rfl
set_option maxRecDepth 100000 in
theorem closed : joinedFacts Tryz.prog 4 Tryz.f4 (OpenSpec.ofChange Rows.nameTextSpec).bare Rows.nameTextRow = true := by
 unfold joinedFacts
 exact and2 (and2 (and2 (and2 (and2 (and2 (and2 (and2 (and2 (and2 (and2 (and2 (and2 (and2 (and2 (and2 (and2 (and2 (and2 (and2 (and2 (and2 (and2 (and2 (and2 (and2 (and2 (and2 (and2 (and2 (and2 (k0_) k1_) k2_) k3_) k4_) k5_) k6_) k7_) k8_) k9_) k10_) k11_) k12_) k13_) k14_) k15_) k16_) k17_) k18_) k19_) k20_) k21_) k22_) k23_) k24_) k25_) k26_) k27_) k28_) k29_) k30_) k31_
theorem said : Rows.NameTextSaid :=
 OpenClaim.holds_of_cond 4 Tryz.f4 rfl rfl rfl rfl rfl rfl rfl ⟨rfl, rfl, rfl, rfl, rfl⟩ rfl rfl rfl rfl rfl (by kernel_rfl) Tryz.func4 closed
  (of_decide_eq_true (by kernel_rfl)) (by unfold Func.isWrapper; rw [if_neg (of_decide_eq_false (by kernel_rfl))]; exact ⟨rfl, rfl⟩)
  (fun os started H enc _ F => by rw [OpenClaim.pre_eq_preRow]; exact lifted os started H enc F)
theorem plain (f : FuncId) (fn : Func) (hf : Tryz.pinned.checked.prog.funcNamed "certpath/certpathlaw07.NameText" = some f) (hfn : Tryz.pinned.checked.prog.funcs[f]? = some fn) :
  true = Tryz.pinned.checked.prog.looks [] ∧ ∀ (j : Nat) t, fn.params[j]? = some t → Tryz.pinned.checked.prog.wantsStandIn t = false := by
 obtain rfl : f = 4 := Option.some.inj ((show Tryz.prog.funcNamed "certpath/certpathlaw07.NameText" = some 4 by kernel_rfl).symm.trans hf) |>.symm
 obtain rfl : fn = Tryz.f4 := (Option.some.inj (Tryz.func4.symm.trans hfn)).symm
 refine ⟨by kernel_rfl, fun j t ht => ?_⟩
 rw [Tryz.params4] at ht
 have hm := Array.mem_of_getElem? ht
 simp only [List.mem_toArray, List.mem_cons, List.not_mem_nil, or_false] at hm
 rcases hm with rfl | rfl
 ·exact (show Tryz.prog.wantsStandIn 24 = false by kernel_rfl)
 ·exact (show Tryz.prog.wantsStandIn 25 = false by kernel_rfl)
theorem proved : Rows.NameTextCardSaid :=
 Claim7.holds_tied_plain_at .later [] _ _ _ _ said (fun _ h => by cases h) (by kernel_rfl) (fun _ h => by cases h) nameText_row_tie rfl ⟨rfl, rfl⟩ (by kernel_rfl) rfl plain (by kernel_rfl)
end Go.Proofs.YtahamclodagihaaGreatDoor.nameText
