/- The law GnameText holds (the tied card): whatever the arguments are, it returns true, and they read as they did. Conditions: the listed tables of Go's library hold what the program's text lays (tied by the card). -/
import Derived.Test.YtmgnihmjjijdoaaGreatDoorLibZ
import Derived.Test.YtmgnihmjjijdoaaGreatDoorGtH
import Derived.Test.YtmgnihmjjijdoaaGreatDoorGOidD
import Derived.Test.YtmgnihmjjijdoaaGreatDoorCards
import Derived.Test.YtmgnihmjjijdoaaGreatDoorTie
import Derived.Deep.DeepHandedRow
import Derived.Test.YtmgnihmjjijdoaaGreatDoorGGnC
namespace Go.Proofs.YtmgnihmjjijdoaaGreatDoor.gnameText
open Go.RowKit Go.ChangeShapes Go.WideShapes Go.ChangeAt
open Go.ChangeMaps (open_string)

theorem own : ownKnob Tryz.prog.godebug = none := by kernel_rfl
theorem cells_bytes : Tryz.prog.cellsOf 5 = 1 := by kernel_rfl
theorem cells_ints : Tryz.prog.cellsOf 3 = 1 := by kernel_rfl

set_option maxRecDepth 100000 in
theorem contract (H : Type) (enc : TypeId × Value → H) (W : World) (base : Nat) (args : Array Value) (ds gs : List (DataW H)) (before : List MemPlace)
    (hval : ∀ (j : Nat) t v, Tryz.f3.params[j]? = some t → args[j]? = some v → Value.okWide Tryz.prog W .any base t v)
    (hW : DataW.Whole enc Tryz.prog Tryz.f3.params.toList Rows.gnameTextSpec.vars false W args.toList ds gs before) (_hL : laidMetH Tryz.prog Rows.gnameTextRow.laid W) (hS : W.ShapedOpen Tryz.prog) :
    Calls Tryz.prog 3 args W fun e W' => ∃ v, e = .returned v ∧ Rows.gnameTextSpec.post enc Tryz.prog Tryz.f3 false true false false W args v W' := by
  have hW' := hW
  have hlt : ∀ x ∈ before, x.block < W.heap.size := fun x hx => hW.lt x hx
  obtain ⟨p, q, hA0, hV, rfl, hfz, hnd⟩ := hW
  have hA : DataW.TrodAll enc Tryz.prog W 0 (fun _ => true) true Tryz.f3.params.toList args.toList ds p := hA0
  rw [Tryz.params3] at hA hval
  obtain ⟨v0, vs0, d0, ds0, p0, q0, hargs, rfl, rfl, h0, r0⟩ := trodAll_cons hA
  obtain ⟨v1, vs1, d1, ds1, p1, q1, rfl, rfl, rfl, h1, r1⟩ := trodAll_cons r0
  obtain ⟨v2, vs2, d2, ds2, p2, q2, rfl, rfl, rfl, h2, r2⟩ := trodAll_cons r1
  obtain ⟨v3, vs3, d3, ds3, p3, q3, rfl, rfl, rfl, h3, r3⟩ := trodAll_cons r2
  obtain ⟨rfl, rfl, rfl⟩ := trodAll_nil r3
  obtain rfl : args = #[v0, v1, v2, v3] := by cases args; simp_all
  obtain ⟨rfl, rfl⟩ := trodVars_none hV
  obtain ⟨g0, t0, A0, c0, rfl, ht0, k0⟩ := open_gen (hval 0 26 v0 rfl rfl) h0
  obtain ⟨l2, A2, n2, c2, rfl, k2, b2⟩ := open_intk Tryz.underlying27 Tryz.underlying3 cells_ints (hval 2 27 v2 rfl rfl) h2 (fun x hx => hlt x (by simp [hx]))
  obtain ⟨l3, A3, n3, c3, rfl, k3⟩ := open_bytes Tryz.underlying28 Tryz.underlying5 cells_bytes (hval 3 28 v3 rfl rfl) h3 (fun x hx => hlt x (by simp [hx]))
  obtain ⟨s1, rfl, rfl, rfl, ws1⟩ := open_string Tryz.underlying9 (hval 1 9 v1 rfl rfl) h1
  refine (GnameText_any g0 t0 s1 l2 l3 A0 A2 A3 c0 n2 c2 n3 c3 ht0 W (mx_of hS) k0 k2 k3).mono fun e W' ⟨he, hb⟩ => ⟨_, he, ?_⟩
  exact law_post (tb := 4) (by kernel_rfl) (fun t ht => by
    rw [Tryz.params3] at ht
    simp only [List.mem_cons, List.not_mem_nil, or_false] at ht
    rcases ht with rfl | rfl | rfl | rfl <;> exact ⟨by kernel_rfl, of_decide_eq_true (by kernel_rfl)⟩) rfl rfl Tryz.underlying4 hW' rfl hb

/-- A world for the witness: the settled one, the tables holding what their initialisers lay. -/
noncomputable def laidWorld (os : Os) : World :=
  { World.holding Tryz.prog os ⟨#[], #[], []⟩ with heap := (((World.holding Tryz.prog os ⟨#[], #[], []⟩).heap.modify 2 fun
      | .cells _ t frozen => .cells #[.int .u8 128, .int .u8 191, .int .u8 160, .int .u8 191, .int .u8 128, .int .u8 159, .int .u8 144, .int .u8 191, .int .u8 128, .int .u8 143, .int .u8 0, .int .u8 0, .int .u8 0, .int .u8 0, .int .u8 0, .int .u8 0, .int .u8 0, .int .u8 0, .int .u8 0, .int .u8 0, .int .u8 0, .int .u8 0, .int .u8 0, .int .u8 0, .int .u8 0, .int .u8 0, .int .u8 0, .int .u8 0, .int .u8 0, .int .u8 0, .int .u8 0, .int .u8 0] t frozen
      | o => o).modify 1 fun
      | .cells _ t frozen => .cells (Go.Pinned.utf8FirstZ.map fun (n : Nat) => Value.int .u8 (n : Int)).toArray t frozen
      | o => o) }
theorem laid_met (os : Os) : laidMet Tryz.prog Rows.gnameTextRow.laid ((laidWorld os).forCall (fun _ _ => 0) ⟨#[], #[.agg #[.int .i64 0, .string ⟨#[]⟩, .slice none 0 0], .string ⟨#[]⟩, .slice none 0 0, .slice none 0 0], []⟩).memory :=
  laidMet_of_run' 8 (by kernel_rfl) (by kernel_rfl)
theorem reads (os : Os) {H : Type} (enc : TypeId × Value → H) : (DataW.whole enc Tryz.prog ((laidWorld os).forCall (fun _ _ => 0) ⟨#[], #[.agg #[.int .i64 0, .string ⟨#[]⟩, .slice none 0 0], .string ⟨#[]⟩, .slice none 0 0, .slice none 0 0], []⟩).memory Tryz.f3.params.toList Rows.gnameTextSpec.vars false (#[.agg #[.int .i64 0, .string ⟨#[]⟩, .slice none 0 0], .string ⟨#[]⟩, .slice none 0 0, .slice none 0 0] : Array Value).toList 8).isSome = true := by kernel_rfl

set_option maxRecDepth 100000 in
theorem lifted (os : Os) (started : os.Started) (H : Type) (enc : TypeId × Value → H) (F : Stop.Interp) :
    ReturnsInHanded {} Tryz.checked os 3 .any ((OpenSpec.ofChange Rows.gnameTextSpec).preRow enc Tryz.prog Tryz.f3 Rows.gnameTextRow.domain false Rows.gnameTextRow.laid) (((OpenSpec.ofChange Rows.gnameTextSpec).at F).post enc Tryz.prog Tryz.f3 false true false false) := by
  obtain ⟨x, hx⟩ := Option.isSome_iff_exists.1 (reads os enc)
  refine returnsInHanded_of_row (C := Tryz.checked) (s := OpenSpec.ofChange Rows.gnameTextSpec) own started (by kernel_rfl) Tryz.func3
    (witness_row_at (enc := enc) (C := Tryz.checked) false (laidWorld os) #[.agg #[.int .i64 0, .string ⟨#[]⟩, .slice none 0 0], .string ⟨#[]⟩, .slice none 0 0, .slice none 0 0] rfl (by kernel_rfl) (by kernel_rfl) (by kernel_rfl)
      (OpenSpec.preRow_of_cond 8 hx rfl (fun k hk => by cases hk) (by kernel_rfl) (laid_met os))) ?_
  intro W base args ds gs before hval hW _ _ _ hL hS _
  exact contract H enc W base args ds gs before hval hW hL hS

theorem and2 {a b : Bool} (ha : a = true) (hb : b = true) : (a && b) = true := by rw [ha, hb]; rfl
theorem k0_ : (Rows.gnameTextRow.wf (OpenSpec.ofChange ((OpenSpec.ofChange Rows.gnameTextSpec).bare))) = true := by kernel_rfl
theorem k1_ : (laidOutB Tryz.prog) = true := by kernel_rfl
theorem k2_ : (mapsRowed Tryz.prog) = true := by kernel_rfl
theorem k3_ : (Tryz.f3.params.all (Tryz.prog.readableRec ·)) = true := by kernel_rfl
theorem k4_ : (namedTie Tryz.prog Rows.gnameTextRow.named ((OpenSpec.ofChange Rows.gnameTextSpec).bare).vars) = true := by kernel_rfl
theorem k5_ : ((Rows.gnameTextRow.stops == [])) = true := by kernel_rfl
theorem k6_ : ((Tryz.prog.stops == [])) = true := by kernel_rfl
theorem k7_ : ((Rows.gnameTextRow.knobs == [])) = true := by kernel_rfl
theorem k8_ : ((Tryz.prog.stopKnobs == [])) = true := by kernel_rfl
theorem k9_ : ((Rows.gnameTextRow.inPlace == Tryz.prog.inPlace 3)) = true := by kernel_rfl
theorem k10_ : ((Rows.gnameTextRow.unfollowed == Tryz.prog.unfollowed 3)) = true := by kernel_rfl
theorem k11_ : ((Rows.gnameTextRow.recurses == Tryz.prog.recurses 3)) = true := by kernel_rfl
theorem k12_ : ((Rows.gnameTextRow.named == Tryz.prog.varsNamed 3)) = true := by kernel_rfl
theorem k13_ : ((Rows.gnameTextRow.maps == (Tryz.f3.params.toList ++ ((OpenSpec.ofChange Rows.gnameTextSpec).bare).plain.varTypes Tryz.prog).any (Tryz.prog.mapsRec ·))) = true := by kernel_rfl
theorem k14_ : ((Rows.gnameTextRow.ifaces == (Tryz.f3.params.toList ++ ((OpenSpec.ofChange Rows.gnameTextSpec).bare).plain.varTypes Tryz.prog).any (Tryz.prog.ifacesRec ·))) = true := by kernel_rfl
theorem k15_ : ((Rows.gnameTextRow.mapsOut == Tryz.prog.mapsAmong Tryz.f3.resultTypes.toList)) = true := by kernel_rfl
theorem k16_ : ((Rows.gnameTextRow.loops == (Tryz.f3.params.toList ++ ((OpenSpec.ofChange Rows.gnameTextSpec).bare).plain.varTypes Tryz.prog).any (Tryz.prog.loopsFrom ·))) = true := by kernel_rfl
theorem k17_ : ((Rows.gnameTextRow.wideKeys == (Tryz.f3.params.toList ++ ((OpenSpec.ofChange Rows.gnameTextSpec).bare).plain.varTypes Tryz.prog ++ Tryz.f3.resultTypes.toList).any (Tryz.prog.wideKeysFrom ·))) = true := by kernel_rfl
theorem k18_ : (((OpenSpec.ofChange Rows.gnameTextSpec).bare).vars.all (Tryz.prog.varReadable ·)) = true := by kernel_rfl
theorem k19_ : (Tryz.f3.resultTypes.all (fun t => Tryz.prog.readableRec t && decide (t < Tryz.prog.types.size))) = true := by kernel_rfl
theorem k20_ : ((Rows.gnameTextRow.ifacesOut == Tryz.f3.resultTypes.toList.any (Tryz.prog.ifacesRec ·))) = true := by kernel_rfl
theorem k21_ : ((Rows.gnameTextRow.loopsOut == Tryz.f3.resultTypes.toList.any (Tryz.prog.loopsFrom ·))) = true := by kernel_rfl
theorem k22_ : ((Rows.gnameTextRow.plainKeys == Tryz.prog.plainKeys)) = true := by kernel_rfl
theorem k23_ : (Rows.gnameTextRow.shortTexts.isNone) = true := by kernel_rfl
theorem k24_ : (Tryz.prog.stopsHeard) = true := by kernel_rfl
theorem k25_ : (Tryz.prog.mayEnter) = true := by kernel_rfl
theorem k26_ : ((Rows.gnameTextRow.lifted == Tryz.prog.liftsFinal)) = true := by kernel_rfl
theorem k27_ : ((Tryz.prog.make == some Rows.gnameTextRow.make)) = true := by kernel_rfl
theorem k28_ : ((Rows.gnameTextRow.kinds == (if Rows.gnameTextRow.domain.isEmpty then [] else Tryz.f3.params.toList.map fun t => match Tryz.prog.underlying t with | some (.int k) => some k | _ => none))) = true := by kernel_rfl
theorem k29_ : ((Rows.gnameTextRow.pinned == Rows.gnameTextRow.pinnedBy)) = true := by kernel_rfl
theorem k30_ : ((Rows.gnameTextRow.veiled == (Tryz.f3.params.toList ++ ((OpenSpec.ofChange Rows.gnameTextSpec).bare).plain.varTypes Tryz.prog ++ Tryz.f3.resultTypes.toList).any (Tryz.prog.veiledRec ·))) = true := by kernel_rfl
theorem k31_ : (Rows.gnameTextRow.veiledFits Tryz.prog Tryz.f3.params.toList (Tryz.f3.params.toList ++ ((OpenSpec.ofChange Rows.gnameTextSpec).bare).plain.varTypes Tryz.prog ++ Tryz.f3.resultTypes.toList)) = true := by kernel_rfl
set_option maxRecDepth 100000 in
theorem closed : joinedFacts Tryz.prog 3 Tryz.f3 (OpenSpec.ofChange Rows.gnameTextSpec).bare Rows.gnameTextRow = true := by
  unfold joinedFacts
  exact and2 (and2 (and2 (and2 (and2 (and2 (and2 (and2 (and2 (and2 (and2 (and2 (and2 (and2 (and2 (and2 (and2 (and2 (and2 (and2 (and2 (and2 (and2 (and2 (and2 (and2 (and2 (and2 (and2 (and2 (and2 (k0_) k1_) k2_) k3_) k4_) k5_) k6_) k7_) k8_) k9_) k10_) k11_) k12_) k13_) k14_) k15_) k16_) k17_) k18_) k19_) k20_) k21_) k22_) k23_) k24_) k25_) k26_) k27_) k28_) k29_) k30_) k31_
theorem said : Rows.GnameTextSaid :=
  OpenClaim.holds_of_cond 3 Tryz.f3 rfl rfl rfl rfl rfl rfl rfl ⟨rfl, rfl, rfl, rfl, rfl⟩ rfl rfl rfl rfl rfl (by kernel_rfl) Tryz.func3 closed
    (of_decide_eq_true (by kernel_rfl)) (by unfold Func.isWrapper; rw [if_neg (of_decide_eq_false (by kernel_rfl))]; exact ⟨rfl, rfl⟩)
    (fun os started H enc _ F => by rw [OpenClaim.pre_eq_preRow]; exact lifted os started H enc F)

/-- No parameter wants a stand-in; the program's own looks are off: what the card asks. -/
theorem plain (f : FuncId) (fn : Func) (hf : Tryz.pinned.checked.prog.funcNamed "certpath/certpathlaw09.GnameText" = some f) (hfn : Tryz.pinned.checked.prog.funcs[f]? = some fn) :
    false = Tryz.pinned.checked.prog.looks [] ∧ ∀ (j : Nat) t, fn.params[j]? = some t → Tryz.pinned.checked.prog.wantsStandIn t = false := by
  obtain rfl : f = 3 := Option.some.inj ((show Tryz.prog.funcNamed "certpath/certpathlaw09.GnameText" = some 3 by kernel_rfl).symm.trans hf) |>.symm
  obtain rfl : fn = Tryz.f3 := (Option.some.inj (Tryz.func3.symm.trans hfn)).symm
  refine ⟨by kernel_rfl, fun j t ht => ?_⟩
  rw [Tryz.params3] at ht
  have hm := Array.mem_of_getElem? ht
  simp only [List.mem_toArray, List.mem_cons, List.not_mem_nil, or_false] at hm
  rcases hm with rfl | rfl | rfl | rfl
  · exact (show Tryz.prog.wantsStandIn 26 = false by kernel_rfl)
  · exact (show Tryz.prog.wantsStandIn 9 = false by kernel_rfl)
  · exact (show Tryz.prog.wantsStandIn 27 = false by kernel_rfl)
  · exact (show Tryz.prog.wantsStandIn 28 = false by kernel_rfl)

theorem proved : Rows.GnameTextCardSaid :=
  Claim7.holds_tied_plain_at .later [] _ _ _ _ said (fun _ h => by cases h) (by kernel_rfl) (fun _ h => by cases h) gnameText_row_tie rfl ⟨rfl, rfl⟩ (by kernel_rfl) rfl plain (by kernel_rfl)
end Go.Proofs.YtmgnihmjjijdoaaGreatDoor.gnameText
