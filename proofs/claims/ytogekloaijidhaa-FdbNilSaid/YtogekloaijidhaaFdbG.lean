/- FdbNil: a table that isn't there knows nothing (the law walked). -/
import Derived.Test.YtogekloaijidhaaFdbF
set_option maxRecDepth 100000
namespace Go.Proofs.Ytogekloaijidhaa
open Go Go.RowKit

set_option maxHeartbeats 4000000 in
theorem fdbNil_walk (m : Mac) (n : Int) (w : World) :
    Calls Try.prog 5 #[.agg m.enc.toArray, .int .i64 n] w fun e w' => e = .returned (.bool true) ∧ Grow w w' := by
  go_enter Try.func5, Try.ntmps5
  go_upto_region 1 with (fail)
  obtain ⟨w1, g1, f1, new1, e⟩ := box1 w m.enc 57; refine wp_in e ?_; clear e; simp only [Mac.length_enc] at f1; generalize w.heap.size = n1 at *
  go_wp2_with fail
  refine (lives10_calls _).mono ?_
  rintro e X ⟨rfl, h5⟩
  (obtain ⟨w1, gx, rfl⟩ := h5.unput f1; clear h5; have f1 := gx.fit f1; have g1 := g1.trans gx; clear gx)
  go_wp2_with fail
  refine (start_nil _).mono ?_
  rintro e X ⟨rfl, rfl⟩
  go_wp2_with fail
  refine (findNil_calls m _).mono ?_
  rintro e X ⟨rfl, h5⟩
  (obtain ⟨w1, gx, rfl⟩ := h5.unput f1; clear h5; have f1 := gx.fit f1; have g1 := g1.trans gx; clear gx)
  go_upto_region 6 with (fail)
  have h5 : Grow (put w1 n1 0 m.enc) ((put w1 n1 0 m.enc).alloc (.cells Ent.zero.enc.toArray 60)) := (Grow.refl _).alloc _
  generalize (put w1 n1 0 m.enc).alloc (.cells Ent.zero.enc.toArray 60) = X at *
  generalize w1.heap.size = n2
  (obtain ⟨w1, gx, rfl⟩ := h5.unput f1; clear h5; have f1 := gx.fit f1; have g1 := g1.trans gx; clear gx)
  go_wp2_with fail
  refine (learnNil_calls m n _).mono ?_
  rintro e X ⟨rfl, h5⟩
  (obtain ⟨w1, gx, rfl⟩ := h5.unput f1; clear h5; have f1 := gx.fit f1; have g1 := g1.trans gx; clear gx)
  go_wp2_with fail
  refine (fixNil_calls m 1 _).mono ?_
  rintro e X ⟨rfl, h5⟩
  (obtain ⟨w1, gx, rfl⟩ := h5.unput f1; clear h5; have f1 := gx.fit f1; have g1 := g1.trans gx; clear gx)
  go_wp2_with fail
  refine (forgetNil_calls m _).mono ?_
  rintro e X ⟨rfl, h5⟩
  (obtain ⟨w1, gx, rfl⟩ := h5.unput f1; clear h5; have f1 := gx.fit f1; have g1 := g1.trans gx; clear gx)
  go_wp2_with fail
  refine (flushNil_calls n _).mono ?_
  rintro e X ⟨rfl, h5⟩
  (obtain ⟨w1, gx, rfl⟩ := h5.unput f1; clear h5; have f1 := gx.fit f1; have g1 := g1.trans gx; clear gx)
  go_wp2_with fail
  refine (olderNil_calls n _).mono ?_
  rintro e X ⟨rfl, h5⟩
  (obtain ⟨w1, gx, rfl⟩ := h5.unput f1; clear h5; have f1 := gx.fit f1; have g1 := g1.trans gx; clear gx)
  go_wp2_with fail
  refine (lenNil_calls _).mono ?_
  rintro e X ⟨rfl, rfl⟩
  go_wp2_with fail
  refine (allNil_calls _).mono ?_
  rintro e X ⟨rfl, rfl⟩
  go_wp2
  go_ret
  exact ⟨rfl, Grow.new g1 new1⟩
end Go.Proofs.Ytogekloaijidhaa
