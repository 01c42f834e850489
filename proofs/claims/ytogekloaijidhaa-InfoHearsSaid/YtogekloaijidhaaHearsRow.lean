/- InfoHears: of any bridge whose port is Current, and was told something, what it hears is what the document says, whatever the message is; no condition. -/
import Derived.Test.YtogekloaijidhaaHears
import Derived.WalkKit
import Derived.ProofKit
import Derived.OpenShut
import Derived.ShutString
import Derived.ChangeOld
import Derived.Below
set_option maxRecDepth 100000
namespace Go.Proofs.Ytogekloaijidhaa
open Go Go.RowKit

end Go.Proofs.Ytogekloaijidhaa
namespace Go.Proofs.Ytogekloaijidhaa.infoHears
open Go Go.RowKit Go.ChangeShapes Go.WideShapes Go.ChangeAt
open Go.ChangeMaps (open_string shut_string)
theorem und_bridge : (match Try.prog.underlying 34 with | some (.struct _) => true | _ => false) = true := by kernel_rfl
theorem okWide_agg {P : Program} {w : World} {r : Reach} {base : Nat} {t : TypeId} {v : Value} (hu : (match P.underlying t with | some (.struct _) => true | _ => false) = true) (h : Value.okWide P w r base t v) : ∃ cs, v = .agg cs := by
  unfold Value.okWide at h
  cases hd : P.underlying t with
  | none => simp [hd] at hu
  | some d => cases d <;> simp only [hd] at hu h <;> first | (cases hu; done) | (obtain ⟨cs, e, _⟩ := h; exact ⟨cs, e⟩)
theorem und_bpdu : (match Try.prog.underlying 43 with | some (.struct _) => true | _ => false) = true := by kernel_rfl
theorem und_int : Try.prog.underlying 3 = some (.int .i64) := by kernel_rfl
theorem und_bool : Try.prog.underlying 4 = some .bool := by kernel_rfl
theorem own : ownKnob Try.prog.godebug = none := by kernel_rfl
theorem laidOut : laidOutB Try.prog = true := by kernel_rfl
set_option maxHeartbeats 1000000 in
theorem lifted (os : Os) (started : os.Started) (H : Type) (enc : TypeId × Value → H) :
    ReturnsInHanded {} Try.checked os 4 .any (Rows.infoHearsSpec.pre6 enc Try.prog Try.f4 Rows.infoHearsRow.domain false) (Rows.infoHearsSpec.post enc Try.prog Try.f4 false true false false) := by
  refine returnsInHanded_of_change (C := Try.checked) own started (by kernel_rfl) Try.func4
    (ChangeSpec.witness6 (enc := enc) (C := Try.checked) false ⟨#[], #[.agg Brg.zero.enc.toArray, .int .i64 0, .agg Bpdu.zero.enc.toArray], []⟩ 8 (by kernel_rfl) (by kernel_rfl) (by kernel_rfl) (by kernel_rfl)) ?_
  intro W base args ds gs before hval0 hW hcnd _
  have hval : ∀ (j : Nat) t v, Try.f4.params[j]? = some t → args[j]? = some v → Value.okWide Try.prog W .any base t v := hval0
  have hW' := hW
  obtain ⟨p, q, hA0, hV, rfl, hfz, hnd⟩ := hW
  have hA : DataW.TrodAll enc Try.prog W 0 (fun _ => true) true Try.f4.params.toList args.toList ds p := hA0
  rw [Try.params4] at hA hval
  obtain ⟨v0, vs0, d0, ds0, p0, q0, hargs, rfl, rfl, h0, r0⟩ := trodAll_cons hA
  obtain ⟨v1, vs1, d1, ds1, p1, q1, rfl, rfl, rfl, h1, r1⟩ := trodAll_cons r0
  obtain ⟨v2, vs2, d2, ds2, p2, q2, rfl, rfl, rfl, h2, r2⟩ := trodAll_cons r1
  obtain ⟨rfl, rfl, rfl⟩ := trodAll_nil r2
  obtain rfl : args = #[v0, v1, v2] := by cases args; simp_all
  obtain ⟨rfl, rfl⟩ := trodVars_none hV
  have k0 := h0
  have lt0 : ∀ x ∈ p0, x.block < W.heap.size := by obtain ⟨m, hm⟩ := k0; exact DataW.trod_lt m _ _ _ hm
  obtain ⟨cs, rfl⟩ := okWide_agg und_bridge (hval 0 34 v0 rfl rfl)
  have k2 := h2
  have lt2 : ∀ x ∈ p2, x.block < W.heap.size := by obtain ⟨m, hm⟩ := k2; exact DataW.trod_lt m _ _ _ hm
  obtain ⟨cs2, rfl⟩ := okWide_agg und_bpdu (hval 2 43 v2 rfl rfl)
  obtain ⟨fuel2, hf2⟩ := h2
  obtain ⟨m, hm, hmok⟩ := Bpdu.of_fits (flat_fits 5 _ _ fuel2 _ _ flatBpdu hf2)
  have hcs2 : cs2 = m.enc.toArray := by
    apply Array.ext'
    simpa [Value.cells] using hm
  subst hcs2
  obtain ⟨fuel, hf⟩ := h0
  obtain ⟨b, l, hb, hl, hlen, hok⟩ := bridge_in hf
  have hcs : cs = b.enc.toArray := by
    apply Array.ext'
    simpa [Value.cells] using hb
  subst hcs
  obtain ⟨a1, rfl, rfl, rfl, w1⟩ := open_int und_int (hval 1 3 v1 rfl rfl) h1
  clear hA0 hval0
  refine (infoHears_walk b l a1 m W hl hlen hok hmok).mono fun e W' ⟨he, bel⟩ => ?_
  subst he
  exact ⟨_, rfl, _, _, _, [], _, [], hW', trodAll_mk1 (shut_bool und_bool _), (trodAll_cons_mk (Below.trod laidOut (by kernel_rfl) (of_decide_eq_true (by kernel_rfl)) k0 bel lt0) (trodAll_cons_mk (shut_int und_int w1) (trodAll_cons_mk (Below.trod laidOut (by kernel_rfl) (of_decide_eq_true (by kernel_rfl)) k2 bel lt2) trodAll_mk0))), rfl, bel.frame _, fun h => by cases h⟩
theorem proved : Rows.InfoHearsSaid :=
  OpenClaim.holds_of_wide 4 Try.f4 rfl rfl rfl rfl rfl rfl rfl ⟨rfl, rfl, rfl, rfl, rfl⟩ rfl rfl rfl rfl rfl (by kernel_rfl) Try.func4 (by kernel_rfl)
    (of_decide_eq_true (by kernel_rfl)) (by unfold Func.isWrapper; first | (rw [if_pos (by decide +kernel)]; kernel_rfl) | (rw [if_neg (by decide +kernel)]; exact ⟨rfl, rfl⟩))
    (fun os started H enc _ => lifted os started H enc)
#print axioms proved
end Go.Proofs.Ytogekloaijidhaa.infoHears
