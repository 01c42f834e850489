/- WHEN TWO VALUES OF A STRUCT TYPE ARE EQUAL: the program's '==' on them. -/
import Derived.Test.YtogekloaijidhaaRows
import Derived.Test.YtogekloaijidhaaData
set_option maxRecDepth 100000
namespace Go.Proofs.Ytogekloaijidhaa
open Go Go.RowKit
theorem ite_ok {c : Prop} [Decidable c] {b : Bool} {w : World} : (if c then Result.ok b w else Result.ok false w) = Result.ok (decide c && b) w := by
  split <;> simp_all
theorem ite_ok' {b c : Bool} {w : World} : (if c = true then Result.ok b w else Result.ok false w) = Result.ok (c && b) w := by
  cases c <;> simp

set_option maxHeartbeats 4000000 in
@[go_sem ↓] theorem Vec.eq_run (a b : Vec) (w : World) : (Op.equalIn 10000 30 (.agg a.enc.toArray) (.agg b.enc.toArray)).run Try.prog w = .ok (decide (a = b)) w := by
  have hf : Try.prog.fieldsOf 30 = _ := rfl
  go_simp
  clear hf
  simp only [ite_ok]
  congr 1
  cases a
  cases b
  rw [Bool.eq_iff_iff]
  simp [Vec.ext_iff]

set_option maxHeartbeats 4000000 in
@[go_sem ↓] theorem Tms.eq_run (a b : Tms) (w : World) : (Op.equalIn 10000 25 (.agg a.enc.toArray) (.agg b.enc.toArray)).run Try.prog w = .ok (decide (a = b)) w := by
  have hf : Try.prog.fieldsOf 25 = _ := rfl
  go_simp
  clear hf
  simp only [ite_ok]
  congr 1
  cases a
  cases b
  rw [Bool.eq_iff_iff]
  simp [Tms.ext_iff]

set_option maxHeartbeats 4000000 in
@[go_sem ↓] theorem Bpdu.eq_run (a b : Bpdu) (w : World) : (Op.equalIn 10000 43 (.agg a.enc.toArray) (.agg b.enc.toArray)).run Try.prog w = .ok (decide (a = b)) w := by
  have hf : Try.prog.fieldsOf 43 = _ := rfl
  go_simp
  clear hf
  simp only [ite_ok]
  congr 1
  cases a
  cases b
  rw [Bool.eq_iff_iff]
  simp [and_assoc, Vec.ext_iff, Bpdu.ext_iff]

set_option maxHeartbeats 4000000 in
@[go_sem ↓] theorem Prt.eq_run (a b : Prt) (w : World) : (Op.equalIn 10000 50 (.agg a.enc.toArray) (.agg b.enc.toArray)).run Try.prog w = .ok (decide (a = b)) w := by
  have hf : Try.prog.fieldsOf 50 = _ := rfl
  go_simp
  clear hf
  simp only [ite_ok]
  congr 1
  cases a
  cases b
  rw [Bool.eq_iff_iff]
  simp [and_assoc, Vec.ext_iff, Tms.ext_iff, Bpdu.ext_iff]
set_option maxHeartbeats 1000000 in
@[go_sem ↓] theorem Mac.eq_run (a b : Mac) (w : World) : (Op.equalIn 10000 57 (.agg a.enc.toArray) (.agg b.enc.toArray)).run Try.prog w = .ok (decide (a = b)) w := by
  rw [show (10000 : Nat) = 9999 + 1 from rfl]
  unfold Op.equalIn
  go_simp
  rw [show List.range' 0 6 = [0, 1, 2, 3, 4, 5] from rfl]
  simp only [List.forIn_cons, List.forIn_nil]
  go_simp
  simp only [ite_ok]
  congr 1
  cases a
  cases b
  rw [Bool.eq_iff_iff]
  simp
end Go.Proofs.Ytogekloaijidhaa
