/- WALKS: the chapter's example (lives), and Does: a machine of a bridge does what the document says. -/
import Derived.Test.YtogekloaijidhaaInfoI
import Derived.Test.YtogekloaijidhaaRefH
import Derived.Test.YtogekloaijidhaaRefI
import Derived.Test.YtogekloaijidhaaRefJ
set_option maxRecDepth 100000
namespace Go.Proofs.Ytogekloaijidhaa
open Go Go.RowKit

theorem calls_in {P : Program} {f : FuncId} {args : Array Value} {w w' : World} {Q : Ending → World → Prop} (h : w = w') (k : Calls P f args w' Q) : Calls P f args w Q := by rw [h]; exact k
theorem wp_build {P : Program} {o : Oper} {a : Act} {w : World} {K : Act → World → Prop} {Q : Exit → Act → World → Prop} (t : TypeId) (parts : Array (Nat × Operand)) (ho : o.op = .build t parts) (v : Value)
    (h : (Instr.build t (parts.map fun (i, x) => (i, a.eval x))).run P w = .ok v w) (k : K (a.put o.dst v) w) : o.wp P a w K Q := by
  unfold Oper.wp execOp
  simp only [ho, Sem.run_bind, h, Result.andThen_ok, Sem.run_pure]
  exact k
theorem wpList_build {P : Program} {ops : Array Oper} {rest : List Oper} {o : Oper} {a : Act} {w : World} {Q : Exit → Act → World → Prop} (hgd : o.guard = none) (t : TypeId) (parts : Array (Nat × Operand)) (ho : o.op = .build t parts) (v : Value) (vals : Array (Nat × Value)) (hv : (parts.map fun (i, x) => (i, a.eval x)) = vals)
    (h : (Instr.build t vals).run P w = .ok v w) (k : wpList P ops Q rest (a.put o.dst v) w) : wpList P ops Q (o :: rest) a w :=
  wpList_plain hgd fun _ hK => wp_build t parts ho v (by rw [hv]; exact h) (hK _ _ k)
theorem wpList_buildSlice {P : Program} {ops : Array Oper} {rest : List Oper} {o : Oper} {a : Act} {w w' : World} {Q : Exit → Act → World → Prop} (hgd : o.guard = none) (t : TypeId) (n : Nat) (parts : Array (Nat × Operand)) (ho : o.op = .buildSlice t n parts) (v : Value) (vals : Array (Nat × Value)) (hv : (parts.map fun (i, x) => (i, a.eval x)) = vals)
    (h : (Instr.buildSlice t n vals).run P w = .ok v w') (k : wpList P ops Q rest (a.put o.dst v) w') : wpList P ops Q (o :: rest) a w :=
  wpList_plain hgd fun _ hK => by
    unfold Oper.wp execOp
    simp only [ho, Sem.run_bind, hv, h, Result.andThen_ok, Sem.run_pure]
    exact hK _ _ k
def port0 : Prt := { Prt.zero with enabled := true }
def brg0 (n : Nat) : Brg := { Brg.zero with ports := ⟨some ⟨n, 0, none⟩, 1, 1⟩ }
theorem port0_wf : port0.wf := ⟨⟨by decide, by decide, by decide, by decide, by decide⟩, by decide, by decide, by decide⟩
theorem port0_step : P.step false port0 = (P.age port0, true) := by decide
theorem port1_wf : (P.age port0).wf := ⟨⟨by decide, by decide, by decide, by decide, by decide⟩, by decide, by decide, by decide⟩
theorem port1_step : P.step false (P.age port0) = (P.age port0, false) := by decide
set_option maxHeartbeats 4000000 in
theorem lives15_calls (w : World) : Calls Try.prog 6 #[] w fun e w' => e = .returned (.bool true) ∧ Grow w w' := by
  go_enter Try.func6, Try.ntmps6
  have hb : ∀ w : World, (Instr.build 50 #[(2, .bool true)]).run Try.prog w = .ok (.agg port0.enc.toArray) w := fun _ => by kernel_rfl
  have hs : ∀ w : World, (Instr.buildSlice 32 1 #[(0, .agg port0.enc.toArray)]).run Try.prog w = .ok (.slice (some ⟨w.heap.size, 0, none⟩) 1 1) (w.alloc (.cells port0.enc.toArray 50)) := fun _ => by kernel_rfl
  go_upto_region 2 with (first
    | (refine wpList_build rfl 50 #[(2, .const (.bool true))] rfl _ #[(2, .bool true)] (by simp [Act.eval]) (hb _) ?_)
    | (refine wpList_buildSlice rfl 32 1 #[(0, .tmp 3)] rfl _ #[(0, .agg port0.enc.toArray)] (by simp [Act.eval, Act.put]) (hs _) ?_))
  obtain ⟨w1, g1, f1, f2, new1, new2, ne12, ne21, e⟩ := box2 w port0.enc (brg0 w.heap.size).enc 50 34; refine wp_in e ?_; clear e; simp only [Prt.length_enc, Brg.length_enc] at f1 f2; generalize w.heap.size + 1 = n2 at *; generalize w.heap.size = n1 at *
  clear hb hs
  have hW : Grow w (put w1 n2 0 (brg0 n1).enc) := Grow.new g1 new2
  have fP : Fit (put w1 n2 0 (brg0 n1).enc) n1 0 90 := (Fit.put_far ne12).2 f1
  have hc : (put w1 n2 0 (brg0 n1).enc).cell? ⟨n2, 0 + 17, none⟩ = some (.slice (some ⟨n1, 0, none⟩) 1 1) := put_cell (k := 17) f2 rfl (by decide)
  have hA : At (put w1 n2 0 (brg0 n1).enc) n2 (0 + 6) [.bool false] := (At.of_put (l := (brg0 n1).enc) f2).sub (k := 6) rfl (by simp)
  refine wp_in (put_comm ne12) ?_
  go_wp2_with fail
  refine (step_in _ n2 0 n1 0 1 1 0 0 false port0 hc (by decide) (by decide) rfl fP port0_wf ne21 hA).mono ?_
  rintro e X ⟨rfl, X, gX, rfl⟩
  rw [port0_step]
  have fP2 := gX.fit fP
  have hc2 := gX.cell hc
  have hA2 := gX.at hA
  have hW2 := hW.trans gX
  have fB : Fit X n2 0 18 := gX.fit (f2.put f2)
  go_wp2_with fail
  refine (step_in _ n2 0 n1 0 1 1 0 0 false (P.age port0) hc2 (by decide) (by decide) rfl fP2 port1_wf ne21 hA2).mono ?_
  rintro e Y ⟨rfl, Y, gY, rfl⟩
  rw [port1_step]
  have fP3 := gY.fit fP2
  have hc3 := gY.cell hc2
  go_wp2
  go_ret
  exact ⟨rfl, Grow.new (hW2.trans gY) new1⟩
end Go.Proofs.Ytogekloaijidhaa
