/- WALKS: which port it is (port.Of), and what a port's machine does next (info.Step). -/
import Derived.Test.YtogekloaijidhaaInfoH
set_option maxRecDepth 100000
namespace Go.Proofs.Ytogekloaijidhaa
open Go Go.RowKit

set_option maxHeartbeats 400000 in
theorem of_in (w : World) (bb bo pb po n c o : Nat) (i : Int) (ho : po + i.toNat * 90 = o) (hs : w.cell? ⟨bb, bo + 17, none⟩ = some (.slice (some ⟨pb, po, none⟩) n c)) (h0 : 0 ≤ i) (h1 : i < n) :
    Calls Try.prog 27 #[.pointer (some ⟨bb, bo, none⟩), .int .i64 i] w fun e w' => e = .returned (.pointer (some ⟨pb, o, none⟩)) ∧ w' = w := by
  subst ho
  have h2 : ¬ i < 0 := by omega
  have h3 : ¬ (n : Int) ≤ i := by omega
  go_enter Try.func27, Try.ntmps27
  go_wp2
  go_ret
  exact ⟨rfl, rfl⟩
set_option maxHeartbeats 400000 in
theorem of_out (w : World) (bb bo n c : Nat) (a : Option Addr) (i : Int) (hs : w.cell? ⟨bb, bo + 17, none⟩ = some (.slice a n c)) (h1 : i < 0 ∨ (n : Int) ≤ i) :
    Calls Try.prog 27 #[.pointer (some ⟨bb, bo, none⟩), .int .i64 i] w fun e w' => e = .returned (.pointer none) ∧ w' = w := by
  by_cases h2 : i < 0
  · go_enter Try.func27, Try.ntmps27
    go_wp2
    go_ret
    exact ⟨rfl, rfl⟩
  · have h3 : (n : Int) ≤ i := by omega
    clear h1
    go_enter Try.func27, Try.ntmps27
    go_wp2
    go_ret
    exact ⟨rfl, rfl⟩
set_option maxHeartbeats 400000 in
theorem of_nil (w : World) (i : Int) :
    Calls Try.prog 27 #[.pointer none, .int .i64 i] w fun e w' => e = .returned (.pointer none) ∧ w' = w := by
  go_enter Try.func27, Try.ntmps27
  go_wp2
  go_ret
  exact ⟨rfl, rfl⟩
set_option maxHeartbeats 400000 in
theorem step_nil (w : World) (i : Int) :
    Calls Try.prog 9 #[.pointer none, .int .i64 i] w fun e w' => e = .returned (.bool false) ∧ w' = w := by
  go_enter Try.func9, Try.ntmps9
  go_wp2_with (go_at_call 27; refine (of_nil _ _).mono ?_; rintro e w' ⟨rfl, rfl⟩)
  go_ret
  exact ⟨rfl, rfl⟩
set_option maxHeartbeats 400000 in
theorem step_out (w : World) (bb bo n c : Nat) (a : Option Addr) (i : Int) (hs : w.cell? ⟨bb, bo + 17, none⟩ = some (.slice a n c)) (h1 : i < 0 ∨ (n : Int) ≤ i) :
    Calls Try.prog 9 #[.pointer (some ⟨bb, bo, none⟩), .int .i64 i] w fun e w' => e = .returned (.bool false) ∧ w' = w := by
  have HS := Lib.hid hs
  have H1 := Lib.hid h1
  clear hs h1
  go_enter Try.func9, Try.ntmps9
  go_wp2_with (go_at_call 27; refine (of_out _ _ _ _ _ _ _ HS.out H1.out).mono ?_; rintro e w' ⟨rfl, rfl⟩)
  go_ret
  exact ⟨rfl, rfl⟩
set_option maxHeartbeats 8000000 in
theorem step_in (w : World) (bb bo b po n c o : Nat) (i : Int) (r : Bool) (p : Prt) (hs : w.cell? ⟨bb, bo + 17, none⟩ = some (.slice (some ⟨b, po, none⟩) n c)) (h0 : 0 ≤ i) (h1 : i < n) (ho : po + i.toNat * 90 = o)
    (h : Fit w b o 90) (hp : p.wf) (hb : bb ≠ b) (hr : At w bb (bo + 6) [.bool r]) :
    Calls Try.prog 9 #[.pointer (some ⟨bb, bo, none⟩), .int .i64 i] (put w b o p.enc) fun e w' => e = .returned (.bool (P.step r p).2) ∧ Done w b o (P.step r p).1.enc w' := by
  have HS := Lib.hid hs
  have HO := Lib.hid ho
  clear hs ho
  go_enter Try.func9, Try.ntmps9
  go_wp2_with fail
  refine (of_in _ _ _ _ _ _ _ _ _ HO.out ((put_cell_other hb).trans HS.out) h0 h1).mono ?_
  rintro e w' ⟨rfl, rfl⟩
  clear HS h1 HO
  have hpim : p.pim = 0 ∨ p.pim = 1 ∨ p.pim = 2 ∨ (p.pim ≠ 0 ∧ p.pim ≠ 1 ∧ p.pim ≠ 2) := by omega
  rcases hpim with hpim | hpim | hpim | hpim
  all_goals
    go_wp2_with (first
      | (go_at_call 28; refine (disable_calls _ _ _ _ h).mono ?_; rintro e w' ⟨rfl, w1, g1, rfl⟩)
      | (go_at_call 29; refine (age_calls _ _ _ _ h).mono ?_; rintro e w' ⟨rfl, w1, g1, rfl⟩)
      | (go_at_call 30; refine (update_calls _ _ _ _ h).mono ?_; rintro e w' ⟨rfl, w1, g1, rfl⟩)
      | (go_at_call 31; refine (hear_calls _ _ _ _ _ _ _ h hp hb hr).mono ?_; rintro e w' ⟨rfl, w1, g1, rfl⟩))
  all_goals go_ret
  all_goals go_light
  all_goals (first | (refine ⟨?_, w1, g1, ?_⟩; all_goals simp_all [P.step]; done) | (refine ⟨?_, w, Grow.refl w, ?_⟩; all_goals simp_all [P.step]; done) | trace_state)
end Go.Proofs.Ytogekloaijidhaa
