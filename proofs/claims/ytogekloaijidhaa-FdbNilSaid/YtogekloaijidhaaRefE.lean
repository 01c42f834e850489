/- WALKS: the reference's next: what a port's machine does next. -/
import Derived.Test.YtogekloaijidhaaRefD
set_option maxRecDepth 100000
namespace Go.Proofs.Ytogekloaijidhaa
open Go Go.RowKit

set_option maxHeartbeats 8000000 in
theorem next15_calls (b : Brg) (p : Prt) (hp : p.wf) (hr : p.wfR) (w : World) :
    Calls Try.prog 32 #[.agg b.enc.toArray, .agg p.enc.toArray] w fun e w' => e = .returned (.tuple #[.agg (P.step b.rstp p).1.enc.toArray, .bool (P.step b.rstp p).2]) ∧ Grow w w' := by
  have HP := Lib.hid hp
  have HR := Lib.hid hr
  clear hp hr
  go_enter Try.func32, Try.ntmps32
  go_upto_region 1 with (fail)
  obtain ⟨w1, g1, f1, f2, f3, new1, new2, new3, ⟨ne12, ne21⟩, ⟨ne13, ne31⟩, ⟨ne23, ne32⟩, e⟩ := box3 w b.enc p.enc Prt.zero.enc 34 50 50; refine wp_in e ?_; clear e; simp only [Brg.length_enc, Prt.length_enc, Prt.length_enc] at f1 f2 f3; generalize w.heap.size + 2 = n3 at *; generalize w.heap.size + 1 = n2 at *; generalize w.heap.size = n1 at *
  have hpim : p.pim = 0 ∨ p.pim = 1 ∨ p.pim = 2 ∨ (p.pim ≠ 0 ∧ p.pim ≠ 1 ∧ p.pim ≠ 2) := by omega
  rcases hpim with hpim | hpim | hpim | hpim
  all_goals
    go_wp2_with (first
      | (go_at_call 61; refine (disable15_calls _ _).mono ?_; rintro e X ⟨rfl, h5⟩; (obtain ⟨w1, gx, rfl⟩ := h5.unput3 f1 f2 f3 ne12 ne13 ne23; clear h5; have f1 := gx.fit f1; have f2 := gx.fit f2; have f3 := gx.fit f3; have g1 := g1.trans gx; clear gx))
      | (go_at_call 62; refine (age15_calls _ _).mono ?_; rintro e X ⟨rfl, h5⟩; (obtain ⟨w1, gx, rfl⟩ := h5.unput3 f1 f2 f3 ne12 ne13 ne23; clear h5; have f1 := gx.fit f1; have f2 := gx.fit f2; have f3 := gx.fit f3; have g1 := g1.trans gx; clear gx))
      | (go_at_call 63; refine (update15_calls _ _).mono ?_; rintro e X ⟨rfl, h5⟩; (obtain ⟨w1, gx, rfl⟩ := h5.unput3 f1 f2 f3 ne12 ne13 ne23; clear h5; have f1 := gx.fit f1; have f2 := gx.fit f2; have f3 := gx.fit f3; have g1 := g1.trans gx; clear gx))
      | (go_at_call 64; refine (hear15_calls _ _ HP.out HR.out _).mono ?_; rintro e X ⟨rfl, h5⟩; (obtain ⟨w1, gx, rfl⟩ := h5.unput3 f1 f2 f3 ne12 ne13 ne23; clear h5; have f1 := gx.fit f1; have f2 := gx.fit f2; have f3 := gx.fit f3; have g1 := g1.trans gx; clear gx)))
  all_goals go_light
  all_goals
    refine bodyPost_ret (v := .tuple #[.agg (P.step b.rstp p).1.enc.toArray, .bool (P.step b.rstp p).2]) ?_ rfl ⟨rfl, Grow.new (Grow.new (Grow.new g1 new1) new2) new3⟩
    simp [results, Try.results32, go_sem, f3, ne31, ne32]
    simp_all [P.step]
end Go.Proofs.Ytogekloaijidhaa
