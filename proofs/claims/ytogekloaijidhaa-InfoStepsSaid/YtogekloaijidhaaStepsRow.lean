/- InfoSteps: of any bridge, whatever its ports know, what a port's machine does next is what the document says; no condition. -/
import Derived.Test.YtogekloaijidhaaLawB
import Derived.Test.YtogekloaijidhaaBrIn
import Derived.WalkKit
import Derived.ProofKit
import Derived.OpenShut
import Derived.ShutString
import Derived.ChangeOld
import Derived.Below
set_option maxRecDepth 100000
namespace Go.Proofs.Ytogekloaijidhaa
open Go Go.RowKit

theorem port_all {l : List Prt} (hok : ∀ p ∈ l, OkL p.enc) (hf : ∀ p ∈ l, fitsP p = true) : ∀ p ∈ l, p.wf ∧ p.wfR := fun p hp => port_wf (hok p hp) (hf p hp)
set_option maxHeartbeats 4000000 in
theorem infoSteps_walk (b : Brg) (l : List Prt) (i : Int) (w : World) (hl : PortsIn w b.ports l) (hlen : l.length ≤ maxLen) (hok : ∀ p ∈ l, OkL p.enc) :
    Calls Try.prog 3 #[.agg b.enc.toArray, .int .i64 i] w fun e w' => e = .returned (.bool true) ∧ Grow w w' := by
  have HL := Lib.hid hl
  have HK := Lib.hid hlen
  have HO := Lib.hid hok
  clear hl hlen hok
  go_enter Try.func3, Try.ntmps3
  go_upto_region 1 with (fail)
  obtain ⟨w1, g1, f1, new1, e⟩ := box1 w b.enc 34; refine wp_in e ?_; clear e; simp only [Brg.length_enc] at f1; generalize w.heap.size = n1 at *
  go_wp2_with fail
  refine (lives15_calls _).mono ?_
  rintro e X ⟨rfl, h5⟩
  (obtain ⟨w1, gx, rfl⟩ := h5.unput f1; clear h5; have f1 := gx.fit f1; have g1 := g1.trans gx; clear gx)
  have HI := Lib.hid (HL.out.grow (Grow.new (o := 0) (l := b.enc) g1 new1))
  go_wp2_with fail
  refine (fits08_calls b l _ HI.out HK.out).mono ?_
  rintro e X ⟨r, rfl, hfit, h5⟩
  (obtain ⟨w1, gx, rfl⟩ := h5.unput f1; clear h5; have f1 := gx.fit f1; have g1 := g1.trans gx; clear gx)
  have HF := Lib.hid hfit
  clear hfit HI
  cases r
  · go_wp2_with fail
    refine (lives15_calls _).mono ?_
    rintro e X ⟨rfl, h5⟩
    (obtain ⟨w1, gx, rfl⟩ := h5.unput f1; clear h5; have f1 := gx.fit f1; have g1 := g1.trans gx; clear gx)
    go_wp2
    go_ret
    exact ⟨rfl, Grow.new g1 new1⟩
  · have HI := Lib.hid (HL.out.grow (Grow.new (o := 0) (l := b.enc) g1 new1))
    go_wp2_with fail
    refine (does_calls b l i _ HI.out (Nat.le_trans (HF.out (by trivial)).1 (by decide)) (port_all HO.out (HF.out (by trivial)).2)).mono ?_
    rintro e X ⟨rfl, h5⟩
    (obtain ⟨w1, gx, rfl⟩ := h5.unput f1; clear h5; have f1 := gx.fit f1; have g1 := g1.trans gx; clear gx)
    go_wp2_with fail
    refine (step_nil _ _).mono ?_
    rintro e X ⟨rfl, rfl⟩
    go_wp2
    go_ret
    exact ⟨rfl, Grow.new g1 new1⟩
end Go.Proofs.Ytogekloaijidhaa
namespace Go.Proofs.Ytogekloaijidhaa.infoSteps
open Go Go.RowKit Go.ChangeShapes Go.WideShapes Go.ChangeAt
open Go.ChangeMaps (open_string shut_string)
theorem und_bridge : (match Try.prog.underlying 34 with | some (.struct _) => true | _ => false) = true := by kernel_rfl
theorem okWide_agg {P : Program} {w : World} {r : Reach} {base : Nat} {t : TypeId} {v : Value} (hu : (match P.underlying t with | some (.struct _) => true | _ => false) = true) (h : Value.okWide P w r base t v) : ∃ cs, v = .agg cs := by
  unfold Value.okWide at h
  cases hd : P.underlying t with
  | none => simp [hd] at hu
  | some d => cases d <;> simp only [hd] at hu h <;> first | (cases hu; done) | (obtain ⟨cs, e, _⟩ := h; exact ⟨cs, e⟩)
theorem und_int : Try.prog.underlying 3 = some (.int .i64) := by kernel_rfl
theorem und_bool : Try.prog.underlying 4 = some .bool := by kernel_rfl
theorem own : ownKnob Try.prog.godebug = none := by kernel_rfl
theorem laidOut : laidOutB Try.prog = true := by kernel_rfl
set_option maxHeartbeats 1000000 in
theorem lifted (os : Os) (started : os.Started) (H : Type) (enc : TypeId × Value → H) :
    ReturnsInHanded {} Try.checked os 3 .any (Rows.infoStepsSpec.pre6 enc Try.prog Try.f3 Rows.infoStepsRow.domain false) (Rows.infoStepsSpec.post enc Try.prog Try.f3 false true false false) := by
  refine returnsInHanded_of_change (C := Try.checked) own started (by kernel_rfl) Try.func3
    (ChangeSpec.witness6 (enc := enc) (C := Try.checked) false ⟨#[], #[.agg Brg.zero.enc.toArray, .int .i64 0], []⟩ 8 (by kernel_rfl) (by kernel_rfl) (by kernel_rfl) (by kernel_rfl)) ?_
  intro W base args ds gs before hval0 hW hcnd _
  have hval : ∀ (j : Nat) t v, Try.f3.params[j]? = some t → args[j]? = some v → Value.okWide Try.prog W .any base t v := hval0
  have hW' := hW
  obtain ⟨p, q, hA0, hV, rfl, hfz, hnd⟩ := hW
  have hA : DataW.TrodAll enc Try.prog W 0 (fun _ => true) true Try.f3.params.toList args.toList ds p := hA0
  rw [Try.params3] at hA hval
  obtain ⟨v0, vs0, d0, ds0, p0, q0, hargs, rfl, rfl, h0, r0⟩ := trodAll_cons hA
  obtain ⟨v1, vs1, d1, ds1, p1, q1, rfl, rfl, rfl, h1, r1⟩ := trodAll_cons r0
  obtain ⟨rfl, rfl, rfl⟩ := trodAll_nil r1
  obtain rfl : args = #[v0, v1] := by cases args; simp_all
  obtain ⟨rfl, rfl⟩ := trodVars_none hV
  have k0 := h0
  have lt0 : ∀ x ∈ p0, x.block < W.heap.size := by obtain ⟨m, hm⟩ := k0; exact DataW.trod_lt m _ _ _ hm
  obtain ⟨cs, rfl⟩ := okWide_agg und_bridge (hval 0 34 v0 rfl rfl)
  obtain ⟨fuel, hf⟩ := h0
  obtain ⟨b, l, hb, hl, hlen, hok⟩ := bridge_in hf
  have hcs : cs = b.enc.toArray := by
    apply Array.ext'
    simpa [Value.cells] using hb
  subst hcs
  obtain ⟨a1, rfl, rfl, rfl, w1⟩ := open_int und_int (hval 1 3 v1 rfl rfl) h1
  clear hA0 hval0
  refine (infoSteps_walk b l a1 W hl hlen hok).mono fun e W' ⟨he, bel⟩ => ?_
  subst he
  exact ⟨_, rfl, _, _, _, [], _, [], hW', trodAll_mk1 (shut_bool und_bool _), (trodAll_cons_mk (Below.trod laidOut (by kernel_rfl) (of_decide_eq_true (by kernel_rfl)) k0 bel lt0) (trodAll_cons_mk (shut_int und_int w1) trodAll_mk0)), rfl, bel.frame _, fun h => by cases h⟩
theorem proved : Rows.InfoStepsSaid :=
  OpenClaim.holds_of_wide 3 Try.f3 rfl rfl rfl rfl rfl rfl rfl ⟨rfl, rfl, rfl, rfl, rfl⟩ rfl rfl rfl rfl rfl (by kernel_rfl) Try.func3 (by kernel_rfl)
    (of_decide_eq_true (by kernel_rfl)) (by unfold Func.isWrapper; first | (rw [if_pos (by decide +kernel)]; kernel_rfl) | (rw [if_neg (by decide +kernel)]; exact ⟨rfl, rfl⟩))
    (fun os started H enc _ => lifted os started H enc)
#print axioms proved
end Go.Proofs.Ytogekloaijidhaa.infoSteps
