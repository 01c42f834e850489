/- WALKS: what a table that isn't there tells (the law FdbNil). -/
import Derived.Test.YtogekloaijidhaaFdbE
set_option maxRecDepth 100000
namespace Go.Proofs.Ytogekloaijidhaa
open Go Go.RowKit

theorem start_nil (w : World) : Calls Try.prog 15 #[.pointer none] w fun e w' => e = .returned (.tuple #[]) ∧ w' = w := by
  go_enter Try.func15, Try.ntmps15
  go_wp2
  go_end0
  exact ⟨rfl, rfl⟩
theorem findNil_calls (m : Mac) (w : World) : Calls Try.prog 16 #[.pointer none, .agg m.enc.toArray] w fun e w' => e = .returned (.tuple #[.agg Ent.zero.enc.toArray, .bool false]) ∧ Grow w w' := by
  have hz : (#[.int .u8 0, .int .u8 0, .int .u8 0, .int .u8 0, .int .u8 0, .int .u8 0, .int .i64 0, .int .u32 0, .int .i64 0, .bool false] : Array Value) = Ent.zero.enc.toArray := rfl
  go_enter Try.func16, Try.ntmps16
  go_wp2
  refine bodyPost_ret (v := .tuple #[.agg Ent.zero.enc.toArray, .bool false]) ?_ rfl ⟨rfl, ((Grow.refl _).alloc _).alloc _⟩
  simp [results, Try.results16, go_sem]
theorem learnNil_calls (m : Mac) (n : Int) (w : World) : Calls Try.prog 17 #[.pointer none, .agg m.enc.toArray, .int .i64 n] w fun e w' => e = .returned (.bool false) ∧ Grow w w' := by
  go_enter Try.func17, Try.ntmps17
  go_wp2
  go_ret
  exact ⟨rfl, (Grow.refl _).alloc _⟩
theorem fixNil_calls (m : Mac) (n : Int) (w : World) : Calls Try.prog 18 #[.pointer none, .agg m.enc.toArray, .int .u32 n] w fun e w' => e = .returned (.int .i64 1) ∧ Grow w w' := by
  go_enter Try.func18, Try.ntmps18
  go_wp2
  go_ret
  exact ⟨rfl, (Grow.refl _).alloc _⟩
theorem forgetNil_calls (m : Mac) (w : World) : Calls Try.prog 19 #[.pointer none, .agg m.enc.toArray] w fun e w' => e = .returned (.int .i64 6) ∧ Grow w w' := by
  go_enter Try.func19, Try.ntmps19
  go_wp2
  go_ret
  exact ⟨rfl, (Grow.refl _).alloc _⟩
theorem flushNil_calls (n : Int) (w : World) : Calls Try.prog 20 #[.pointer none, .int .i64 n] w fun e w' => e = .returned (.int .i64 0) ∧ Grow w w' := by
  go_enter Try.func20, Try.ntmps20
  go_wp2
  go_ret
  exact ⟨rfl, (Grow.refl _).alloc _⟩
theorem olderNil_calls (n : Int) (w : World) : Calls Try.prog 21 #[.pointer none, .int .i64 n] w fun e w' => e = .returned (.int .i64 0) ∧ Grow w w' := by
  go_enter Try.func21, Try.ntmps21
  go_wp2
  go_ret
  exact ⟨rfl, (Grow.refl _).alloc _⟩
theorem lenNil_calls (w : World) : Calls Try.prog 22 #[.pointer none] w fun e w' => e = .returned (.int .i64 0) ∧ w' = w := by
  go_enter Try.func22, Try.ntmps22
  go_wp2
  go_ret
  exact ⟨rfl, rfl⟩
theorem sizeNil_calls (w : World) : Calls Try.prog 47 #[.pointer none] w fun e w' => e = .returned (.int .i64 0) ∧ w' = w := by
  go_enter Try.func47, Try.ntmps47
  go_wp2
  go_ret
  exact ⟨rfl, rfl⟩
set_option maxHeartbeats 1000000 in
theorem insNil_calls (v : Value) (w : World) : Calls Try.prog 79 #[.slice none 0 0, .int .i64 0, .int .i64 0, v] w fun e w' => e = .returned (.tuple #[]) ∧ w' = w := by
  go_enter Try.func79, Try.ntmps79
  go_wp2_with fail
  refine wp_loop_rounds 1 ?_
  rw [rounds_succ]
  go_wp2
  go_end0
  exact ⟨rfl, rfl⟩
set_option maxHeartbeats 1000000 in
theorem len64_calls (w : World) : Calls Try.prog 88 #[.int .u64 0] w fun e w' => e = .returned (.int .i64 0) ∧ w' = w := by
  go_enter Try.func88, Try.ntmps88
  go_wp2
  go_ret
  refine ⟨?_, rfl⟩
  kernel_rfl
theorem len0_calls (w : World) : Calls Try.prog 69 #[.int .u64 0] w fun e w' => e = .returned (.int .i64 0) ∧ w' = w := by
  go_enter Try.func69, Try.ntmps69
  go_wp2_with fail
  refine (len64_calls _).mono ?_
  rintro e Y ⟨rfl, rfl⟩
  go_wp2
  go_ret
  exact ⟨rfl, rfl⟩
set_option maxHeartbeats 1000000 in
theorem pdqNil_calls (v : Value) (w : World) : Calls Try.prog 68 #[.slice none 0 0, .int .i64 0, .int .i64 0, .int .i64 0, v] w fun e w' => e = .returned (.tuple #[]) ∧ w' = w := by
  go_enter Try.func68, Try.ntmps68
  go_wp2_with fail
  refine wp_loop_rounds 1 ?_
  rw [rounds_succ]
  go_wp2_with fail
  refine (insNil_calls _ _).mono ?_
  rintro e Y ⟨rfl, rfl⟩
  go_wp2
  refine bodyPost_ret (v := .tuple #[]) ?_ rfl ⟨rfl, rfl⟩
  simp [results, Try.results68, go_sem]
theorem sortNil_calls (v : Value) (w : World) : Calls Try.prog 48 #[.slice none 0 0, v] w fun e w' => e = .returned (.tuple #[]) ∧ w' = w := by
  go_enter Try.func48, Try.ntmps48
  go_wp2_with fail
  refine (len0_calls _).mono ?_
  rintro e Y ⟨rfl, rfl⟩
  go_wp2_with fail
  refine (pdqNil_calls _ _).mono ?_
  rintro e Y ⟨rfl, rfl⟩
  go_wp2
  go_end0
  exact ⟨rfl, rfl⟩
set_option maxHeartbeats 1000000 in
theorem allNil_calls (w : World) : Calls Try.prog 23 #[.pointer none] w fun e w' => e = .returned (.slice none 0 0) ∧ w' = w := by
  go_enter Try.func23, Try.ntmps23
  go_wp2_with fail
  refine (sizeNil_calls _).mono ?_
  rintro e Y ⟨rfl, rfl⟩
  go_wp2_with fail
  refine wp_loop_rounds 1 ?_
  rw [rounds_succ]
  go_wp2_with fail
  refine (sortNil_calls _ _).mono ?_
  rintro e Y ⟨rfl, rfl⟩
  go_wp2
  go_ret
  exact ⟨rfl, rfl⟩
end Go.Proofs.Ytogekloaijidhaa
