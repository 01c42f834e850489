/- WALKS: the reference's Fits: are a bridge's numbers such as may be handed in? -/
import Derived.Test.YtogekloaijidhaaRefF
import Derived.Test.YtogekloaijidhaaRefG
set_option maxRecDepth 100000
namespace Go.Proofs.Ytogekloaijidhaa
open Go Go.RowKit

/-- what Fits tells: if true, there are few ports, and each fits -/
def FitsPost (l : List Prt) (w : World) (e : Ending) (w' : World) : Prop :=
  ∃ r, e = .returned (.bool r) ∧ (r = true → l.length ≤ 20 ∧ ∀ p ∈ l, fitsP p = true) ∧ Grow w w'
theorem FitsPost.no {l : List Prt} {w w' : World} (g : Grow w w') : FitsPost l w (.returned (.bool false)) w' := ⟨false, rfl, (fun h => by cases h), g⟩
def FitsRel (w : World) (n1 : Nat) (b : Brg) (l : List Prt) (i : Value) (wr : World) : Prop :=
  ∃ (k : Nat) (w1 : World), k ≤ l.length ∧ i = .int .i64 k ∧ wr = put w1 n1 0 b.enc ∧ Grow w w1 ∧ Fit w1 n1 0 18 ∧ ∀ j (h : j < l.length), j < k → fitsP l[j] = true
set_option maxHeartbeats 4000000 in
theorem fits08_some (b : Brg) (l : List Prt) (w : World) (pb po : Nat) (ea : b.ports.a = some ⟨pb, po, none⟩) (hl : PortsIn w b.ports l) (hlen : l.length ≤ maxLen) :
    Calls Try.prog 7 #[.agg b.enc.toArray] w (FitsPost l w) := by
  unfold maxLen at hlen
  have hnn : b.ports.n = l.length := hl.1
  have HL := Lib.hid hl
  clear hl
  go_enter Try.func7, Try.ntmps7
  go_upto_region 1 with (fail)
  obtain ⟨w1, g1, f1, new1, e⟩ := box1 w b.enc 34; refine wp_in e ?_; clear e; simp only [Brg.length_enc] at f1; generalize w.heap.size = n1 at *
  go_wp2_with fail
  refine (times08_calls _ _).mono ?_
  rintro e X ⟨rfl, h5⟩
  (obtain ⟨w1, gx, rfl⟩ := h5.unput f1; clear h5; have f1 := gx.fit f1; have g1 := g1.trans gx; clear gx)
  generalize hb3 : fitsT b.times = b3
  go_wp2_with fail
  refine (times08_calls _ _).mono ?_
  rintro e X ⟨rfl, h5⟩
  (obtain ⟨w1, gx, rfl⟩ := h5.unput f1; clear h5; have f1 := gx.fit f1; have g1 := g1.trans gx; clear gx)
  generalize hb4 : fitsT b.rootTimes = b4
  clear hb3 hb4
  cases b3
  · go_wp2
    go_ret
    exact FitsPost.no (Grow.new g1 new1)
  · cases b4
    · go_wp2
      go_ret
      exact FitsPost.no (Grow.new g1 new1)
    · by_cases h20 : (20 : Int) < (l.length : Int)
      · go_wp2
        go_ret
        exact FitsPost.no (Grow.new g1 new1)
      · go_wp2_with fail
        refine (seconds08_calls _ _ [b.txHold] _ (by simp) (by have := At.alloc_new (put w1 n1 0 b.enc) [.int .i64 b.txHold] 3; simpa using this)).mono ?_
        rintro e X ⟨rfl, rfl⟩
        obtain ⟨w2, g2, e⟩ := ((Grow.refl (put w1 n1 0 b.enc)).alloc (.cells #[.int .i64 b.txHold] 3)).unput f1
        rw [e]
        clear e
        have f1 := g2.fit f1
        have g1 := g1.trans g2
        clear g2
        generalize hs : List.all [b.txHold] inr = bs
        clear hs
        cases bs
        · go_wp2
          go_ret
          exact FitsPost.no (Grow.new g1 new1)
        · go_wp2_with fail
          go_loopw [5, 6] (fun i _ wr => FitsRel w n1 b l i wr) (fun i _ _ => l.length - (intOf i).toNat)
          case atStart => exact ⟨0, w2, Nat.zero_le _, rfl, rfl, g1, f1, fun j _ hj => by omega⟩
          case round =>
            obtain ⟨k, w3, hk, rfl, rfl, g3, f3, hall⟩ := hrel
            have HA := Lib.hid hall
            clear hall
            by_cases hlt : k < l.length
            · obtain ⟨pb', po', ea', hx⟩ := (HL.out.grow (Grow.new (o := 0) (l := b.enc) g3 new1)).2 k hlt
              rw [ea] at ea'
              cases ea'
              go_wp2_with fail
              refine (fitsPort08_calls _ _).mono ?_
              rintro e X ⟨rfl, h5⟩
              obtain ⟨w4, g4, rfl⟩ := h5.unput f3
              clear h5 hx
              cases hf : fitsP l[k]
              · go_wp2
                go_ret
                exact FitsPost.no (Grow.new (g3.trans g4) new1)
              · have HF := Lib.hid hf
                clear hf
                have hrel : FitsRel w n1 b l (.int .i64 ((k : Int) + 1)) (put w4 n1 0 b.enc) := by
                  refine ⟨k + 1, w4, by omega, by go_num, rfl, g3.trans g4, g4.fit f3, fun j hj h => ?_⟩
                  by_cases hjk : j = k
                  · subst hjk; exact HF.out
                  · exact HA.out j hj (by omega)
                go_wp2
                go_roundw
                case rel =>
                  exact hrel
                case measure => simp [intOf]; omega
            · go_wp2
              go_ret
              refine ⟨true, rfl, fun _ => ⟨by omega, fun p hp => ?_⟩, Grow.new g3 new1⟩
              obtain ⟨j, hj, rfl⟩ := List.mem_iff_getElem.1 hp
              exact HA.out j hj (by omega)
set_option maxHeartbeats 4000000 in
theorem fits08_none (b : Brg) (w : World) (hnn : b.ports.n = 0) :
    Calls Try.prog 7 #[.agg b.enc.toArray] w (FitsPost [] w) := by
  go_enter Try.func7, Try.ntmps7
  go_upto_region 1 with (fail)
  obtain ⟨w1, g1, f1, new1, e⟩ := box1 w b.enc 34; refine wp_in e ?_; clear e; simp only [Brg.length_enc] at f1; generalize w.heap.size = n1 at *
  go_wp2_with fail
  refine (times08_calls _ _).mono ?_
  rintro e X ⟨rfl, h5⟩
  (obtain ⟨w1, gx, rfl⟩ := h5.unput f1; clear h5; have f1 := gx.fit f1; have g1 := g1.trans gx; clear gx)
  generalize hb3 : fitsT b.times = b3
  go_wp2_with fail
  refine (times08_calls _ _).mono ?_
  rintro e X ⟨rfl, h5⟩
  (obtain ⟨w1, gx, rfl⟩ := h5.unput f1; clear h5; have f1 := gx.fit f1; have g1 := g1.trans gx; clear gx)
  generalize hb4 : fitsT b.rootTimes = b4
  clear hb3 hb4
  cases b3
  · go_wp2
    go_ret
    exact FitsPost.no (Grow.new g1 new1)
  · cases b4
    · go_wp2
      go_ret
      exact FitsPost.no (Grow.new g1 new1)
    · · go_wp2_with fail
        refine (seconds08_calls _ _ [b.txHold] _ (by simp) (by have := At.alloc_new (put w1 n1 0 b.enc) [.int .i64 b.txHold] 3; simpa using this)).mono ?_
        rintro e X ⟨rfl, rfl⟩
        obtain ⟨w2, g2, e⟩ := ((Grow.refl (put w1 n1 0 b.enc)).alloc (.cells #[.int .i64 b.txHold] 3)).unput f1
        rw [e]
        clear e
        have f1 := g2.fit f1
        have g1 := g1.trans g2
        clear g2
        generalize hs : List.all [b.txHold] inr = bs
        clear hs
        cases bs
        · go_wp2
          go_ret
          exact FitsPost.no (Grow.new g1 new1)
        · go_wp2_with fail
          refine wp_loop_rounds 1 ?_
          rw [rounds_succ]
          go_wp2
          go_ret
          exact ⟨true, rfl, (fun _ => ⟨by simp, (fun p hp => by cases hp)⟩), Grow.new g1 new1⟩
/-- whatever ports a bridge has -/
theorem fits08_calls (b : Brg) (l : List Prt) (w : World) (hl : PortsIn w b.ports l) (hlen : l.length ≤ maxLen) :
    Calls Try.prog 7 #[.agg b.enc.toArray] w (FitsPost l w) := by
  cases l with
  | nil => exact fits08_none b w hl.1
  | cons p l =>
    obtain ⟨pb, po, ea, _⟩ := hl.2 0 (by simp)
    exact fits08_some b _ w pb po ea hl hlen
end Go.Proofs.Ytogekloaijidhaa
