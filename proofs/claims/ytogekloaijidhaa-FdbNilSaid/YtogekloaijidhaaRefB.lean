/- WALKS: the reference's functions on a port: they answer as the program's do. -/
import Derived.Test.YtogekloaijidhaaInfoD
import Derived.Test.YtogekloaijidhaaRefA
import Derived.Deep.DeepCutAuto
import Derived.Deep.Light
set_option maxRecDepth 100000
namespace Go.Proofs.Ytogekloaijidhaa
open Go Go.RowKit

theorem wp_in {P : Program} {c : Code} {Q : Exit → Act → World → Prop} {a : Act} {w w' : World} (h : w = w') (k : c.wp P Q a w') : c.wp P Q a w := by rw [h]; exact k
set_option maxHeartbeats 1000000 in
theorem disable15_calls (p : Prt) (w : World) :
    Calls Try.prog 61 #[.agg p.enc.toArray] w fun e w' => e = .returned (.agg (P.disable p).enc.toArray) ∧ Grow w w' := by
  go_enter Try.func61, Try.ntmps61
  go_upto_region 1 with (fail)
  obtain ⟨w1, g1, f1, f2, new1, new2, ne12, ne21, e⟩ := box2 w p.enc Prt.zero.enc 50 50; refine wp_in e ?_; clear e; simp only [Prt.length_enc, Prt.length_enc] at f1 f2; generalize w.heap.size + 1 = n2 at *; generalize w.heap.size = n1 at *
  go_wp2
  refine bodyPost_ret (v := .agg (P.disable p).enc.toArray) ?_ rfl ⟨rfl, Grow.new (Grow.new g1 new1) new2⟩
  simp [results, Try.results61, go_sem, f2, ne21, P.disable]
set_option maxHeartbeats 1000000 in
theorem age15_calls (p : Prt) (w : World) :
    Calls Try.prog 62 #[.agg p.enc.toArray] w fun e w' => e = .returned (.agg (P.age p).enc.toArray) ∧ Grow w w' := by
  go_enter Try.func62, Try.ntmps62
  go_upto_region 1 with (fail)
  obtain ⟨w1, g1, f1, f2, new1, new2, ne12, ne21, e⟩ := box2 w p.enc Prt.zero.enc 50 50; refine wp_in e ?_; clear e; simp only [Prt.length_enc, Prt.length_enc] at f1 f2; generalize w.heap.size + 1 = n2 at *; generalize w.heap.size = n1 at *
  go_wp2
  refine bodyPost_ret (v := .agg (P.age p).enc.toArray) ?_ rfl ⟨rfl, Grow.new (Grow.new g1 new1) new2⟩
  simp [results, Try.results62, go_sem, f2, ne21, P.age]
set_option maxHeartbeats 1000000 in
theorem lives13_calls (p : Prt) (hh : -2147483648 ≤ p.portTimes.hello ∧ p.portTimes.hello ≤ 2147483648) (w : World) :
    Calls Try.prog 77 #[.agg p.enc.toArray] w fun e w' => e = .returned (.agg (P.lives p).enc.toArray) ∧ Grow w w' := by
  obtain ⟨hh0, hh1⟩ := hh
  by_cases hl : p.portTimes.age < p.portTimes.max
  all_goals
    go_enter Try.func77, Try.ntmps77
    go_upto_region 1 with (fail)
    obtain ⟨w1, g1, f1, f2, new1, new2, ne12, ne21, e⟩ := box2 w p.enc Prt.zero.enc 50 50; refine wp_in e ?_; clear e; simp only [Prt.length_enc, Prt.length_enc] at f1 f2; generalize w.heap.size + 1 = n2 at *; generalize w.heap.size = n1 at *
    go_wp2
    refine bodyPost_ret (v := .agg (P.lives p).enc.toArray) ?_ rfl ⟨rfl, Grow.new (Grow.new g1 new1) new2⟩
    first
      | (have hl' : ¬ p.portTimes.max ≤ p.portTimes.age := by omega
         simp [results, Try.results77, go_sem, f2, ne21, P.lives, P.livesT, hl']; done)
      | (have hl' : p.portTimes.max ≤ p.portTimes.age := by omega
         simp [results, Try.results77, go_sem, f2, ne21, P.lives, P.livesT, hl']; done)
set_option maxHeartbeats 1000000 in
theorem bos13_calls (p : Prt) (i : Int) (w : World) :
    Calls Try.prog 75 #[.agg p.enc.toArray, .int .i64 i] w fun e w' => e = .returned (.bool (P.bos p i)) ∧ Grow w w' := by
  go_enter Try.func75, Try.ntmps75
  go_upto_region 1 with (fail)
  obtain ⟨w1, g1, f1, new1, e⟩ := box1 w p.enc 50; rw [e]; clear e; simp only [Prt.length_enc] at f1; generalize w.heap.size = n1 at *
  have hW := Grow.new (o := 0) (l := p.enc) g1 new1
  go_wp2_with (go_at_call 35; (with_reducible refine (less08_calls _ _ _).mono ?_); rintro e w2 ⟨rfl, g2⟩; replace hW := hW.trans g2)
  all_goals go_ret
  all_goals refine ⟨?_, hW⟩
  all_goals simp_all [P.bos]
set_option maxHeartbeats 2000000 in
theorem update15_calls (p : Prt) (w : World) :
    Calls Try.prog 63 #[.agg p.enc.toArray] w fun e w' => e = .returned (.agg (P.update p).enc.toArray) ∧ Grow w w' := by
  cases ha : p.agreed
  all_goals
    go_enter Try.func63, Try.ntmps63
    go_upto_region 1 with (fail)
    obtain ⟨w1, g1, f1, f2, new1, new2, ne12, ne21, e⟩ := box2 w p.enc Prt.zero.enc 50 50; refine wp_in e ?_; clear e; simp only [Prt.length_enc, Prt.length_enc] at f1 f2; generalize w.heap.size + 1 = n2 at *; generalize w.heap.size = n1 at *
    go_wp2_with fail
    refine (bos13_calls _ _ _).mono ?_
    rintro e w2 ⟨rfl, h2⟩
    obtain ⟨w2, g2, rfl⟩ := h2.unput2 f1 f2 ne12
    have hW := g1.trans g2
    have f1 := g2.fit f1
    have f2 := g2.fit f2
    clear g1 g2 h2
    generalize hbs : P.bos _ 2 = bb
    replace hbs : P.bos p 2 = bb := hbs
    have HB := Lib.hid hbs
    clear hbs
    cases bb
    all_goals
      go_wp2
      refine bodyPost_ret (v := .agg (P.update p).enc.toArray) ?_ rfl ⟨rfl, Grow.new (Grow.new hW new1) new2⟩
      simp [results, Try.results63, go_sem, f2, ne21, P.update, ha, HB.out]
def P.told (b : Bool) (p : Prt) : Prt := if b then P.flags (P.propose p) else P.flags p
set_option maxHeartbeats 2000000 in
theorem told15_calls (p : Prt) (hm : p.msg.wf) (b : Bool) (w : World) :
    Calls Try.prog 76 #[.agg p.enc.toArray, .bool b] w fun e w' => e = .returned (.agg (P.told b p).enc.toArray) ∧ Grow w w' := by
  cases b
  all_goals
    go_enter Try.func76, Try.ntmps76
    go_upto_region 1 with (fail)
    obtain ⟨w1, g1, f1, f2, new1, new2, ne12, ne21, e⟩ := box2 w p.enc Prt.zero.enc 50 50; refine wp_in e ?_; clear e; simp only [Prt.length_enc, Prt.length_enc] at f1 f2; generalize w.heap.size + 1 = n2 at *; generalize w.heap.size = n1 at *
    go_wp2_with (go_at_call 78; refine (bit15_calls _ hm _ ⟨by omega, by omega⟩ _).mono ?_; rintro e w3 ⟨rfl, h3⟩; obtain ⟨w3, g3, rfl⟩ := h3.unput2 f1 f2 ne12; have g1 := g1.trans g3; have f1 := g3.fit f1; have f2 := g3.fit f2)
  all_goals go_light
  all_goals
    refine bodyPost_ret (v := .agg (P.told _ p).enc.toArray) ?_ rfl ⟨rfl, Grow.new (Grow.new g1 new1) new2⟩
    simp [results, Try.results76, go_sem, f2, ne21]
    simp_all [P.told, P.flags, P.propose, P.flagged]
end Go.Proofs.Ytogekloaijidhaa
