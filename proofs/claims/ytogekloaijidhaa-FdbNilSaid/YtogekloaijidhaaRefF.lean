/- WALKS: the reference's looks at a bridge's numbers (seconds, times, FitsPort). -/
import Derived.Test.YtogekloaijidhaaInfoD
import Derived.Test.YtogekloaijidhaaRefB
set_option maxRecDepth 100000
namespace Go.Proofs.Ytogekloaijidhaa
open Go Go.RowKit

/-- a number of seconds that may be handed in -/
def inr (x : Int) : Bool := decide (-2147483648 ≤ x) && decide (x ≤ 2147483648)
theorem inr_iff {x : Int} : inr x = true ↔ -2147483648 ≤ x ∧ x ≤ 2147483648 := by simp [inr]
def fitsT (t : Tms) : Bool := [t.age, t.max, t.hello, t.delay].all inr
def fitsP (p : Prt) : Bool :=
  [p.edgeDelayWhile, p.fdWhile, p.helloWhen, p.mdelayWhile, p.rbWhile, p.rcvdInfoWhile, p.rrWhile, p.tcWhile, p.txCount].all inr && fitsT p.designatedTimes && fitsT p.msgTimes && fitsT p.portTimes
theorem ret_bool {a b : Bool} (h : a = b) : Ending.returned (.bool a) = .returned (.bool b) := by rw [h]
set_option maxHeartbeats 1000000 in
theorem seconds08_calls (b c : Nat) (l : List Int) (w : World) (hl : l.length ≤ 100) (ha : At w b 0 (l.map (.int .i64))) :
    Calls Try.prog 25 #[.slice (some ⟨b, 0, none⟩) l.length c] w fun e w' => e = .returned (.bool (l.all inr)) ∧ w' = w := by
  go_enter Try.func25, Try.ntmps25
  have hc : ∀ k (h : k < l.length), w.cell? ⟨b, k, none⟩ = some (.int .i64 l[k]) := fun k h => by
    have := ha.cell (k := k) (by simpa using h)
    simpa [List.getElem?_eq_getElem h] using this
  have HC := Lib.hid hc; clear hc ha
  go_wp2
  go_loop [3] (fun i => ∃ k : Nat, k ≤ l.length ∧ i = .int .i64 k ∧ l.all inr = (l.drop k).all inr) (fun i => l.length - (intOf i).toNat)
  case atStart => exact ⟨0, Nat.zero_le _, rfl, by simp⟩
  case round =>
    obtain ⟨k, hk, rfl, ho⟩ := hrel
    have HO := Lib.hid ho; clear ho
    by_cases hlt : k < l.length
    · have hx := HC.out k hlt
      by_cases h1 : l[k] < -2147483648
      · go_wp2
        go_ret
        refine ⟨?_, rfl⟩
        have hf : inr l[k] = false := by
          rw [Bool.eq_false_iff]; intro h; have := inr_iff.1 h; omega
        exact ret_bool (a := false) (by rw [HO.out, List.drop_eq_getElem_cons hlt, List.all_cons, hf, Bool.false_and])
      · by_cases h2 : 2147483648 < l[k]
        · go_wp2
          go_ret
          refine ⟨?_, rfl⟩
          have hf : inr l[k] = false := by
            rw [Bool.eq_false_iff]; intro h; have := inr_iff.1 h; omega
          exact ret_bool (a := false) (by rw [HO.out, List.drop_eq_getElem_cons hlt, List.all_cons, hf, Bool.false_and])
        · have hf : Hid (inr l[k] = true) := Lib.hid (inr_iff.2 ⟨by omega, by omega⟩)
          go_wp2
          go_round
          case rel => exact ⟨k + 1, by omega, by go_num, by rw [HO.out, List.drop_eq_getElem_cons hlt, List.all_cons, hf.out, Bool.true_and]⟩
          case measure => simp [intOf]; omega
    · go_wp2
      go_ret
      refine ⟨?_, rfl⟩
      exact ret_bool (a := true) (by rw [HO.out, List.drop_of_length_le (by omega)]; rfl)
set_option maxHeartbeats 1000000 in
theorem times08_calls (t : Tms) (w : World) : Calls Try.prog 24 #[.agg t.enc.toArray] w fun e w' => e = .returned (.bool (fitsT t)) ∧ Grow w w' := by
  go_enter Try.func24, Try.ntmps24
  go_wp2_with fail
  refine (seconds08_calls _ _ [t.age, t.max, t.hello, t.delay] _ (by simp) (by have := At.alloc_new (w.alloc (.cells t.enc.toArray 25)) [.int .i64 t.age, .int .i64 t.max, .int .i64 t.hello, .int .i64 t.delay] 3; simpa using this)).mono ?_
  rintro e w' ⟨rfl, rfl⟩
  go_wp2
  go_ret
  exact ⟨by simp [fitsT], ((Grow.refl _).alloc _).alloc _⟩
set_option maxHeartbeats 2000000 in
theorem fitsPort08_calls (p : Prt) (w : World) : Calls Try.prog 26 #[.agg p.enc.toArray] w fun e w' => e = .returned (.bool (fitsP p)) ∧ Grow w w' := by
  go_enter Try.func26, Try.ntmps26
  go_wp2_with fail
  have hA := At.alloc_new (w.alloc (.cells p.enc.toArray 50)) ([p.edgeDelayWhile, p.fdWhile, p.helloWhen, p.mdelayWhile, p.rbWhile, p.rcvdInfoWhile, p.rrWhile, p.tcWhile, p.txCount].map (.int .i64)) 3
  refine (seconds08_calls _ _ [p.edgeDelayWhile, p.fdWhile, p.helloWhen, p.mdelayWhile, p.rbWhile, p.rcvdInfoWhile, p.rrWhile, p.tcWhile, p.txCount] _ (by simp) (by simpa using hA)).mono ?_
  rintro e w' ⟨rfl, rfl⟩
  clear hA
  generalize hb1 : ([p.edgeDelayWhile, p.fdWhile, p.helloWhen, p.mdelayWhile, p.rbWhile, p.rcvdInfoWhile, p.rrWhile, p.tcWhile, p.txCount].all inr) = b1
  have HB := Lib.hid hb1
  clear hb1
  have hW : Grow w _ := ((Grow.refl w).alloc (.cells p.enc.toArray 50)).alloc (.cells ([p.edgeDelayWhile, p.fdWhile, p.helloWhen, p.mdelayWhile, p.rbWhile, p.rcvdInfoWhile, p.rrWhile, p.tcWhile, p.txCount].map (.int .i64)).toArray 3)
  go_upto_region 2 with (fail)
  obtain ⟨w1, g1, f1, f2, new1, new2, ne12, ne21, e⟩ := box2 w p.enc ([p.edgeDelayWhile, p.fdWhile, p.helloWhen, p.mdelayWhile, p.rbWhile, p.rcvdInfoWhile, p.rrWhile, p.tcWhile, p.txCount].map (.int .i64)) 50 3
  refine wp_in e ?_
  clear e hW
  generalize hls : [p.edgeDelayWhile, p.fdWhile, p.helloWhen, p.mdelayWhile, p.rbWhile, p.rcvdInfoWhile, p.rrWhile, p.tcWhile, p.txCount].map (Value.int .i64) = ls at f2 ⊢
  clear hls
  rw [Prt.length_enc] at f1
  generalize w.heap.size + 1 = n2 at *
  generalize w.heap.size = n1 at *
  go_wp2_with fail
  refine (times08_calls _ _).mono ?_
  rintro e X ⟨rfl, h5⟩
  (obtain ⟨w1, gx, rfl⟩ := h5.unput2 f1 f2 ne12; clear h5; have f1 := gx.fit f1; have f2 := gx.fit f2; have g1 := g1.trans gx; clear gx)
  go_wp2_with fail
  refine (times08_calls _ _).mono ?_
  rintro e X ⟨rfl, h5⟩
  (obtain ⟨w1, gx, rfl⟩ := h5.unput2 f1 f2 ne12; clear h5; have f1 := gx.fit f1; have f2 := gx.fit f2; have g1 := g1.trans gx; clear gx)
  go_wp2_with fail
  refine (times08_calls _ _).mono ?_
  rintro e X ⟨rfl, h5⟩
  (obtain ⟨w1, gx, rfl⟩ := h5.unput2 f1 f2 ne12; clear h5; have f1 := gx.fit f1; have f2 := gx.fit f2; have g1 := g1.trans gx; clear gx)
  have HF : Hid (fitsP p = (b1 && fitsT p.designatedTimes && fitsT p.msgTimes && fitsT p.portTimes)) := Lib.hid (by rw [← HB.out]; rfl)
  generalize fitsT p.designatedTimes = b2 at HF ⊢
  generalize fitsT p.msgTimes = b3 at HF ⊢
  generalize fitsT p.portTimes = b4 at HF ⊢
  cases b1 <;> cases b2 <;> cases b3 <;> cases b4
  all_goals
    go_wp2
    go_ret
    exact ⟨by rw [HF.out]; rfl, Grow.new (Grow.new g1 new1) new2⟩
end Go.Proofs.Ytogekloaijidhaa
