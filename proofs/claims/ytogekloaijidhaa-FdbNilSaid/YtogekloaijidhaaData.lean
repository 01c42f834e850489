/- DATA: Lean structures for the program's structs, their cells, and what the walk rewrites by. Printed by structs.py. -/
import Derived.Test.YtogekloaijidhaaMem
set_option maxRecDepth 100000
namespace Go.Proofs.Ytogekloaijidhaa
open Go Go.RowKit
structure Sl where
  a : Option Addr
  n : Nat
  c : Nat
  deriving DecidableEq, Inhabited
@[ext] structure Mac where
  b0 : Int
  b1 : Int
  b2 : Int
  b3 : Int
  b4 : Int
  b5 : Int
  deriving DecidableEq, Inhabited
def Mac.zero : Mac := { b0 := 0, b1 := 0, b2 := 0, b3 := 0, b4 := 0, b5 := 0 }
/-- The cells of a Mac. -/
def Mac.enc (p : Mac) : List Value := [.int .u8 p.b0, .int .u8 p.b1, .int .u8 p.b2, .int .u8 p.b3, .int .u8 p.b4, .int .u8 p.b5]
theorem Mac.zero_lit : #[(Value.int .u8 0), (Value.int .u8 0), (Value.int .u8 0), (Value.int .u8 0), (Value.int .u8 0), (Value.int .u8 0)] = Mac.zero.enc.toArray := rfl
@[simp, go_sem] theorem Mac.length_enc (p : Mac) : p.enc.length = 6 := rfl
@[simp, go_sem] theorem Mac.size_enc (p : Mac) : p.enc.toArray.size = 6 := rfl
@[simp, go_sem] theorem Mac.tk (p : Mac) : p.enc.take 6 = p.enc := rfl
theorem Mac.one (p : Mac) : p.enc.all Value.oneCell' = true := rfl
@[go_sem] theorem Mac.cell_b0 {w : World} {b o : Nat} {p : Mac} (h : Fit w b o 6) : (put w b o p.enc).cell? ⟨b, o, none⟩ = some (.int .u8 p.b0) := (put_cell (k := 0) h rfl (by decide)).trans rfl
@[go_sem] theorem Mac.set_b0 {w : World} {b o : Nat} {p : Mac} (h : Fit w b o 6) (x : Int) : (put w b o p.enc).setCell ⟨b, o, none⟩ (.int .u8 x) = put w b o ({ p with b0 := x } : Mac).enc := (put_setCell (k := 0) h rfl (by decide) _).trans rfl
@[go_sem ↓] theorem Mac.get_b0 (p : Mac) : p.enc.toArray[0]? = some (.int .u8 p.b0) := rfl
@[go_sem] theorem Mac.at_b0 (p : Mac) (h : 0 < p.enc.length) : p.enc[0] = .int .u8 p.b0 := rfl
@[go_sem ↓] theorem Mac.lget_b0 (p : Mac) : p.enc[0]? = some (.int .u8 p.b0) := rfl
@[go_sem] theorem Mac.cell_b1 {w : World} {b o : Nat} {p : Mac} (h : Fit w b o 6) : (put w b o p.enc).cell? ⟨b, o + 1, none⟩ = some (.int .u8 p.b1) := (put_cell (k := 1) h rfl (by decide)).trans rfl
@[go_sem] theorem Mac.set_b1 {w : World} {b o : Nat} {p : Mac} (h : Fit w b o 6) (x : Int) : (put w b o p.enc).setCell ⟨b, o + 1, none⟩ (.int .u8 x) = put w b o ({ p with b1 := x } : Mac).enc := (put_setCell (k := 1) h rfl (by decide) _).trans rfl
@[go_sem ↓] theorem Mac.get_b1 (p : Mac) : p.enc.toArray[1]? = some (.int .u8 p.b1) := rfl
@[go_sem] theorem Mac.at_b1 (p : Mac) (h : 1 < p.enc.length) : p.enc[1] = .int .u8 p.b1 := rfl
@[go_sem ↓] theorem Mac.lget_b1 (p : Mac) : p.enc[1]? = some (.int .u8 p.b1) := rfl
@[go_sem] theorem Mac.cell_b2 {w : World} {b o : Nat} {p : Mac} (h : Fit w b o 6) : (put w b o p.enc).cell? ⟨b, o + 2, none⟩ = some (.int .u8 p.b2) := (put_cell (k := 2) h rfl (by decide)).trans rfl
@[go_sem] theorem Mac.set_b2 {w : World} {b o : Nat} {p : Mac} (h : Fit w b o 6) (x : Int) : (put w b o p.enc).setCell ⟨b, o + 2, none⟩ (.int .u8 x) = put w b o ({ p with b2 := x } : Mac).enc := (put_setCell (k := 2) h rfl (by decide) _).trans rfl
@[go_sem ↓] theorem Mac.get_b2 (p : Mac) : p.enc.toArray[2]? = some (.int .u8 p.b2) := rfl
@[go_sem] theorem Mac.at_b2 (p : Mac) (h : 2 < p.enc.length) : p.enc[2] = .int .u8 p.b2 := rfl
@[go_sem ↓] theorem Mac.lget_b2 (p : Mac) : p.enc[2]? = some (.int .u8 p.b2) := rfl
@[go_sem] theorem Mac.cell_b3 {w : World} {b o : Nat} {p : Mac} (h : Fit w b o 6) : (put w b o p.enc).cell? ⟨b, o + 3, none⟩ = some (.int .u8 p.b3) := (put_cell (k := 3) h rfl (by decide)).trans rfl
@[go_sem] theorem Mac.set_b3 {w : World} {b o : Nat} {p : Mac} (h : Fit w b o 6) (x : Int) : (put w b o p.enc).setCell ⟨b, o + 3, none⟩ (.int .u8 x) = put w b o ({ p with b3 := x } : Mac).enc := (put_setCell (k := 3) h rfl (by decide) _).trans rfl
@[go_sem ↓] theorem Mac.get_b3 (p : Mac) : p.enc.toArray[3]? = some (.int .u8 p.b3) := rfl
@[go_sem] theorem Mac.at_b3 (p : Mac) (h : 3 < p.enc.length) : p.enc[3] = .int .u8 p.b3 := rfl
@[go_sem ↓] theorem Mac.lget_b3 (p : Mac) : p.enc[3]? = some (.int .u8 p.b3) := rfl
@[go_sem] theorem Mac.cell_b4 {w : World} {b o : Nat} {p : Mac} (h : Fit w b o 6) : (put w b o p.enc).cell? ⟨b, o + 4, none⟩ = some (.int .u8 p.b4) := (put_cell (k := 4) h rfl (by decide)).trans rfl
@[go_sem] theorem Mac.set_b4 {w : World} {b o : Nat} {p : Mac} (h : Fit w b o 6) (x : Int) : (put w b o p.enc).setCell ⟨b, o + 4, none⟩ (.int .u8 x) = put w b o ({ p with b4 := x } : Mac).enc := (put_setCell (k := 4) h rfl (by decide) _).trans rfl
@[go_sem ↓] theorem Mac.get_b4 (p : Mac) : p.enc.toArray[4]? = some (.int .u8 p.b4) := rfl
@[go_sem] theorem Mac.at_b4 (p : Mac) (h : 4 < p.enc.length) : p.enc[4] = .int .u8 p.b4 := rfl
@[go_sem ↓] theorem Mac.lget_b4 (p : Mac) : p.enc[4]? = some (.int .u8 p.b4) := rfl
@[go_sem] theorem Mac.cell_b5 {w : World} {b o : Nat} {p : Mac} (h : Fit w b o 6) : (put w b o p.enc).cell? ⟨b, o + 5, none⟩ = some (.int .u8 p.b5) := (put_cell (k := 5) h rfl (by decide)).trans rfl
@[go_sem] theorem Mac.set_b5 {w : World} {b o : Nat} {p : Mac} (h : Fit w b o 6) (x : Int) : (put w b o p.enc).setCell ⟨b, o + 5, none⟩ (.int .u8 x) = put w b o ({ p with b5 := x } : Mac).enc := (put_setCell (k := 5) h rfl (by decide) _).trans rfl
@[go_sem ↓] theorem Mac.get_b5 (p : Mac) : p.enc.toArray[5]? = some (.int .u8 p.b5) := rfl
@[go_sem] theorem Mac.at_b5 (p : Mac) (h : 5 < p.enc.length) : p.enc[5] = .int .u8 p.b5 := rfl
@[go_sem ↓] theorem Mac.lget_b5 (p : Mac) : p.enc[5]? = some (.int .u8 p.b5) := rfl
@[go_sem] theorem Mac.frozen {w : World} {b o k : Nat} {p : Mac} (h : Fit w b o 6) : (put w b o p.enc).frozen? ⟨b, k, none⟩ = false := put_frozen h
@[go_sem ↓] theorem Mac.rd {w : World} {b o : Nat} {p : Mac} (h : Fit w b o 6) : rdCells (put w b o p.enc) ⟨b, o, none⟩ 0 6 = some p.enc := rdCells_put h rfl
@[go_sem ↓] theorem Mac.wr {w : World} {b o : Nat} {p q : Mac} (h : Fit w b o 6) : wrCells (put w b o p.enc) ⟨b, o, none⟩ 0 q.enc = some (put w b o q.enc) := wrCells_put h rfl rfl rfl
@[go_sem ↓] theorem Mac.store (P : Program) (a : Addr) (q : Mac) (w : World) : (storeCells a q.enc 0).run P w = (match wrCells w a 0 q.enc with | some w' => .ok () w' | none => storeSlow P a q.enc w) := store_wr P a q.enc w
@[ext] structure Vec where
  root : Int
  cost : Int
  bridge : Int
  port : Int
  deriving DecidableEq, Inhabited
def Vec.zero : Vec := { root := 0, cost := 0, bridge := 0, port := 0 }
/-- The cells of a Vec. -/
def Vec.enc (p : Vec) : List Value := [.int .u64 p.root, .int .u32 p.cost, .int .u64 p.bridge, .int .u16 p.port]
theorem Vec.zero_lit : #[(Value.int .u64 0), (Value.int .u32 0), (Value.int .u64 0), (Value.int .u16 0)] = Vec.zero.enc.toArray := rfl
@[simp, go_sem] theorem Vec.length_enc (p : Vec) : p.enc.length = 4 := rfl
@[simp, go_sem] theorem Vec.size_enc (p : Vec) : p.enc.toArray.size = 4 := rfl
@[simp, go_sem] theorem Vec.tk (p : Vec) : p.enc.take 4 = p.enc := rfl
theorem Vec.one (p : Vec) : p.enc.all Value.oneCell' = true := rfl
@[go_sem] theorem Vec.cell_root {w : World} {b o : Nat} {p : Vec} (h : Fit w b o 4) : (put w b o p.enc).cell? ⟨b, o, none⟩ = some (.int .u64 p.root) := (put_cell (k := 0) h rfl (by decide)).trans rfl
@[go_sem] theorem Vec.set_root {w : World} {b o : Nat} {p : Vec} (h : Fit w b o 4) (x : Int) : (put w b o p.enc).setCell ⟨b, o, none⟩ (.int .u64 x) = put w b o ({ p with root := x } : Vec).enc := (put_setCell (k := 0) h rfl (by decide) _).trans rfl
@[go_sem ↓] theorem Vec.get_root (p : Vec) : p.enc.toArray[0]? = some (.int .u64 p.root) := rfl
@[go_sem] theorem Vec.at_root (p : Vec) (h : 0 < p.enc.length) : p.enc[0] = .int .u64 p.root := rfl
@[go_sem ↓] theorem Vec.lget_root (p : Vec) : p.enc[0]? = some (.int .u64 p.root) := rfl
@[go_sem] theorem Vec.cell_cost {w : World} {b o : Nat} {p : Vec} (h : Fit w b o 4) : (put w b o p.enc).cell? ⟨b, o + 1, none⟩ = some (.int .u32 p.cost) := (put_cell (k := 1) h rfl (by decide)).trans rfl
@[go_sem] theorem Vec.set_cost {w : World} {b o : Nat} {p : Vec} (h : Fit w b o 4) (x : Int) : (put w b o p.enc).setCell ⟨b, o + 1, none⟩ (.int .u32 x) = put w b o ({ p with cost := x } : Vec).enc := (put_setCell (k := 1) h rfl (by decide) _).trans rfl
@[go_sem ↓] theorem Vec.get_cost (p : Vec) : p.enc.toArray[1]? = some (.int .u32 p.cost) := rfl
@[go_sem] theorem Vec.at_cost (p : Vec) (h : 1 < p.enc.length) : p.enc[1] = .int .u32 p.cost := rfl
@[go_sem ↓] theorem Vec.lget_cost (p : Vec) : p.enc[1]? = some (.int .u32 p.cost) := rfl
@[go_sem] theorem Vec.cell_bridge {w : World} {b o : Nat} {p : Vec} (h : Fit w b o 4) : (put w b o p.enc).cell? ⟨b, o + 2, none⟩ = some (.int .u64 p.bridge) := (put_cell (k := 2) h rfl (by decide)).trans rfl
@[go_sem] theorem Vec.set_bridge {w : World} {b o : Nat} {p : Vec} (h : Fit w b o 4) (x : Int) : (put w b o p.enc).setCell ⟨b, o + 2, none⟩ (.int .u64 x) = put w b o ({ p with bridge := x } : Vec).enc := (put_setCell (k := 2) h rfl (by decide) _).trans rfl
@[go_sem ↓] theorem Vec.get_bridge (p : Vec) : p.enc.toArray[2]? = some (.int .u64 p.bridge) := rfl
@[go_sem] theorem Vec.at_bridge (p : Vec) (h : 2 < p.enc.length) : p.enc[2] = .int .u64 p.bridge := rfl
@[go_sem ↓] theorem Vec.lget_bridge (p : Vec) : p.enc[2]? = some (.int .u64 p.bridge) := rfl
@[go_sem] theorem Vec.cell_port {w : World} {b o : Nat} {p : Vec} (h : Fit w b o 4) : (put w b o p.enc).cell? ⟨b, o + 3, none⟩ = some (.int .u16 p.port) := (put_cell (k := 3) h rfl (by decide)).trans rfl
@[go_sem] theorem Vec.set_port {w : World} {b o : Nat} {p : Vec} (h : Fit w b o 4) (x : Int) : (put w b o p.enc).setCell ⟨b, o + 3, none⟩ (.int .u16 x) = put w b o ({ p with port := x } : Vec).enc := (put_setCell (k := 3) h rfl (by decide) _).trans rfl
@[go_sem ↓] theorem Vec.get_port (p : Vec) : p.enc.toArray[3]? = some (.int .u16 p.port) := rfl
@[go_sem] theorem Vec.at_port (p : Vec) (h : 3 < p.enc.length) : p.enc[3] = .int .u16 p.port := rfl
@[go_sem ↓] theorem Vec.lget_port (p : Vec) : p.enc[3]? = some (.int .u16 p.port) := rfl
@[go_sem] theorem Vec.frozen {w : World} {b o k : Nat} {p : Vec} (h : Fit w b o 4) : (put w b o p.enc).frozen? ⟨b, k, none⟩ = false := put_frozen h
@[go_sem ↓] theorem Vec.rd {w : World} {b o : Nat} {p : Vec} (h : Fit w b o 4) : rdCells (put w b o p.enc) ⟨b, o, none⟩ 0 4 = some p.enc := rdCells_put h rfl
@[go_sem ↓] theorem Vec.wr {w : World} {b o : Nat} {p q : Vec} (h : Fit w b o 4) : wrCells (put w b o p.enc) ⟨b, o, none⟩ 0 q.enc = some (put w b o q.enc) := wrCells_put h rfl rfl rfl
@[go_sem ↓] theorem Vec.store (P : Program) (a : Addr) (q : Vec) (w : World) : (storeCells a q.enc 0).run P w = (match wrCells w a 0 q.enc with | some w' => .ok () w' | none => storeSlow P a q.enc w) := store_wr P a q.enc w
@[ext] structure Tms where
  age : Int
  max : Int
  hello : Int
  delay : Int
  deriving DecidableEq, Inhabited
def Tms.zero : Tms := { age := 0, max := 0, hello := 0, delay := 0 }
/-- The cells of a Tms. -/
def Tms.enc (p : Tms) : List Value := [.int .i64 p.age, .int .i64 p.max, .int .i64 p.hello, .int .i64 p.delay]
theorem Tms.zero_lit : #[(Value.int .i64 0), (Value.int .i64 0), (Value.int .i64 0), (Value.int .i64 0)] = Tms.zero.enc.toArray := rfl
@[simp, go_sem] theorem Tms.length_enc (p : Tms) : p.enc.length = 4 := rfl
@[simp, go_sem] theorem Tms.size_enc (p : Tms) : p.enc.toArray.size = 4 := rfl
@[simp, go_sem] theorem Tms.tk (p : Tms) : p.enc.take 4 = p.enc := rfl
theorem Tms.one (p : Tms) : p.enc.all Value.oneCell' = true := rfl
@[go_sem] theorem Tms.cell_age {w : World} {b o : Nat} {p : Tms} (h : Fit w b o 4) : (put w b o p.enc).cell? ⟨b, o, none⟩ = some (.int .i64 p.age) := (put_cell (k := 0) h rfl (by decide)).trans rfl
@[go_sem] theorem Tms.set_age {w : World} {b o : Nat} {p : Tms} (h : Fit w b o 4) (x : Int) : (put w b o p.enc).setCell ⟨b, o, none⟩ (.int .i64 x) = put w b o ({ p with age := x } : Tms).enc := (put_setCell (k := 0) h rfl (by decide) _).trans rfl
@[go_sem ↓] theorem Tms.get_age (p : Tms) : p.enc.toArray[0]? = some (.int .i64 p.age) := rfl
@[go_sem] theorem Tms.at_age (p : Tms) (h : 0 < p.enc.length) : p.enc[0] = .int .i64 p.age := rfl
@[go_sem ↓] theorem Tms.lget_age (p : Tms) : p.enc[0]? = some (.int .i64 p.age) := rfl
@[go_sem] theorem Tms.cell_max {w : World} {b o : Nat} {p : Tms} (h : Fit w b o 4) : (put w b o p.enc).cell? ⟨b, o + 1, none⟩ = some (.int .i64 p.max) := (put_cell (k := 1) h rfl (by decide)).trans rfl
@[go_sem] theorem Tms.set_max {w : World} {b o : Nat} {p : Tms} (h : Fit w b o 4) (x : Int) : (put w b o p.enc).setCell ⟨b, o + 1, none⟩ (.int .i64 x) = put w b o ({ p with max := x } : Tms).enc := (put_setCell (k := 1) h rfl (by decide) _).trans rfl
@[go_sem ↓] theorem Tms.get_max (p : Tms) : p.enc.toArray[1]? = some (.int .i64 p.max) := rfl
@[go_sem] theorem Tms.at_max (p : Tms) (h : 1 < p.enc.length) : p.enc[1] = .int .i64 p.max := rfl
@[go_sem ↓] theorem Tms.lget_max (p : Tms) : p.enc[1]? = some (.int .i64 p.max) := rfl
@[go_sem] theorem Tms.cell_hello {w : World} {b o : Nat} {p : Tms} (h : Fit w b o 4) : (put w b o p.enc).cell? ⟨b, o + 2, none⟩ = some (.int .i64 p.hello) := (put_cell (k := 2) h rfl (by decide)).trans rfl
@[go_sem] theorem Tms.set_hello {w : World} {b o : Nat} {p : Tms} (h : Fit w b o 4) (x : Int) : (put w b o p.enc).setCell ⟨b, o + 2, none⟩ (.int .i64 x) = put w b o ({ p with hello := x } : Tms).enc := (put_setCell (k := 2) h rfl (by decide) _).trans rfl
@[go_sem ↓] theorem Tms.get_hello (p : Tms) : p.enc.toArray[2]? = some (.int .i64 p.hello) := rfl
@[go_sem] theorem Tms.at_hello (p : Tms) (h : 2 < p.enc.length) : p.enc[2] = .int .i64 p.hello := rfl
@[go_sem ↓] theorem Tms.lget_hello (p : Tms) : p.enc[2]? = some (.int .i64 p.hello) := rfl
@[go_sem] theorem Tms.cell_delay {w : World} {b o : Nat} {p : Tms} (h : Fit w b o 4) : (put w b o p.enc).cell? ⟨b, o + 3, none⟩ = some (.int .i64 p.delay) := (put_cell (k := 3) h rfl (by decide)).trans rfl
@[go_sem] theorem Tms.set_delay {w : World} {b o : Nat} {p : Tms} (h : Fit w b o 4) (x : Int) : (put w b o p.enc).setCell ⟨b, o + 3, none⟩ (.int .i64 x) = put w b o ({ p with delay := x } : Tms).enc := (put_setCell (k := 3) h rfl (by decide) _).trans rfl
@[go_sem ↓] theorem Tms.get_delay (p : Tms) : p.enc.toArray[3]? = some (.int .i64 p.delay) := rfl
@[go_sem] theorem Tms.at_delay (p : Tms) (h : 3 < p.enc.length) : p.enc[3] = .int .i64 p.delay := rfl
@[go_sem ↓] theorem Tms.lget_delay (p : Tms) : p.enc[3]? = some (.int .i64 p.delay) := rfl
@[go_sem] theorem Tms.frozen {w : World} {b o k : Nat} {p : Tms} (h : Fit w b o 4) : (put w b o p.enc).frozen? ⟨b, k, none⟩ = false := put_frozen h
@[go_sem ↓] theorem Tms.rd {w : World} {b o : Nat} {p : Tms} (h : Fit w b o 4) : rdCells (put w b o p.enc) ⟨b, o, none⟩ 0 4 = some p.enc := rdCells_put h rfl
@[go_sem ↓] theorem Tms.wr {w : World} {b o : Nat} {p q : Tms} (h : Fit w b o 4) : wrCells (put w b o p.enc) ⟨b, o, none⟩ 0 q.enc = some (put w b o q.enc) := wrCells_put h rfl rfl rfl
@[go_sem ↓] theorem Tms.store (P : Program) (a : Addr) (q : Tms) (w : World) : (storeCells a q.enc 0).run P w = (match wrCells w a 0 q.enc with | some w' => .ok () w' | none => storeSlow P a q.enc w) := store_wr P a q.enc w
@[ext] structure Bpdu where
  kind : Int
  flags : Int
  vector : Vec
  age : Int
  max : Int
  hello : Int
  delay : Int
  deriving DecidableEq, Inhabited
def Bpdu.zero : Bpdu := { kind := 0, flags := 0, vector := Vec.zero, age := 0, max := 0, hello := 0, delay := 0 }
/-- The cells of a Bpdu. -/
def Bpdu.enc (p : Bpdu) : List Value := [.int .i64 p.kind, .int .u8 p.flags, .int .u64 p.vector.root, .int .u32 p.vector.cost, .int .u64 p.vector.bridge, .int .u16 p.vector.port, .int .u16 p.age, .int .u16 p.max, .int .u16 p.hello, .int .u16 p.delay]
theorem Bpdu.zero_lit : #[(Value.int .i64 0), (Value.int .u8 0), (Value.int .u64 0), (Value.int .u32 0), (Value.int .u64 0), (Value.int .u16 0), (Value.int .u16 0), (Value.int .u16 0), (Value.int .u16 0), (Value.int .u16 0)] = Bpdu.zero.enc.toArray := rfl
@[simp, go_sem] theorem Bpdu.length_enc (p : Bpdu) : p.enc.length = 10 := rfl
@[simp, go_sem] theorem Bpdu.size_enc (p : Bpdu) : p.enc.toArray.size = 10 := rfl
@[simp, go_sem] theorem Bpdu.tk (p : Bpdu) : p.enc.take 10 = p.enc := rfl
theorem Bpdu.one (p : Bpdu) : p.enc.all Value.oneCell' = true := rfl
@[go_sem] theorem Bpdu.cell_kind {w : World} {b o : Nat} {p : Bpdu} (h : Fit w b o 10) : (put w b o p.enc).cell? ⟨b, o, none⟩ = some (.int .i64 p.kind) := (put_cell (k := 0) h rfl (by decide)).trans rfl
@[go_sem] theorem Bpdu.set_kind {w : World} {b o : Nat} {p : Bpdu} (h : Fit w b o 10) (x : Int) : (put w b o p.enc).setCell ⟨b, o, none⟩ (.int .i64 x) = put w b o ({ p with kind := x } : Bpdu).enc := (put_setCell (k := 0) h rfl (by decide) _).trans rfl
@[go_sem ↓] theorem Bpdu.get_kind (p : Bpdu) : p.enc.toArray[0]? = some (.int .i64 p.kind) := rfl
@[go_sem] theorem Bpdu.at_kind (p : Bpdu) (h : 0 < p.enc.length) : p.enc[0] = .int .i64 p.kind := rfl
@[go_sem ↓] theorem Bpdu.lget_kind (p : Bpdu) : p.enc[0]? = some (.int .i64 p.kind) := rfl
@[go_sem] theorem Bpdu.cell_flags {w : World} {b o : Nat} {p : Bpdu} (h : Fit w b o 10) : (put w b o p.enc).cell? ⟨b, o + 1, none⟩ = some (.int .u8 p.flags) := (put_cell (k := 1) h rfl (by decide)).trans rfl
@[go_sem] theorem Bpdu.set_flags {w : World} {b o : Nat} {p : Bpdu} (h : Fit w b o 10) (x : Int) : (put w b o p.enc).setCell ⟨b, o + 1, none⟩ (.int .u8 x) = put w b o ({ p with flags := x } : Bpdu).enc := (put_setCell (k := 1) h rfl (by decide) _).trans rfl
@[go_sem ↓] theorem Bpdu.get_flags (p : Bpdu) : p.enc.toArray[1]? = some (.int .u8 p.flags) := rfl
@[go_sem] theorem Bpdu.at_flags (p : Bpdu) (h : 1 < p.enc.length) : p.enc[1] = .int .u8 p.flags := rfl
@[go_sem ↓] theorem Bpdu.lget_flags (p : Bpdu) : p.enc[1]? = some (.int .u8 p.flags) := rfl
@[go_sem] theorem Bpdu.cell_vector_root {w : World} {b o : Nat} {p : Bpdu} (h : Fit w b o 10) : (put w b o p.enc).cell? ⟨b, o + 2, none⟩ = some (.int .u64 p.vector.root) := (put_cell (k := 2) h rfl (by decide)).trans rfl
@[go_sem] theorem Bpdu.set_vector_root {w : World} {b o : Nat} {p : Bpdu} (h : Fit w b o 10) (x : Int) : (put w b o p.enc).setCell ⟨b, o + 2, none⟩ (.int .u64 x) = put w b o ({ p with vector := { p.vector with root := x } } : Bpdu).enc := (put_setCell (k := 2) h rfl (by decide) _).trans rfl
@[go_sem ↓] theorem Bpdu.get_vector_root (p : Bpdu) : p.enc.toArray[2]? = some (.int .u64 p.vector.root) := rfl
@[go_sem] theorem Bpdu.at_vector_root (p : Bpdu) (h : 2 < p.enc.length) : p.enc[2] = .int .u64 p.vector.root := rfl
@[go_sem ↓] theorem Bpdu.lget_vector_root (p : Bpdu) : p.enc[2]? = some (.int .u64 p.vector.root) := rfl
@[go_sem] theorem Bpdu.cell_vector_cost {w : World} {b o : Nat} {p : Bpdu} (h : Fit w b o 10) : (put w b o p.enc).cell? ⟨b, o + 3, none⟩ = some (.int .u32 p.vector.cost) := (put_cell (k := 3) h rfl (by decide)).trans rfl
@[go_sem] theorem Bpdu.set_vector_cost {w : World} {b o : Nat} {p : Bpdu} (h : Fit w b o 10) (x : Int) : (put w b o p.enc).setCell ⟨b, o + 3, none⟩ (.int .u32 x) = put w b o ({ p with vector := { p.vector with cost := x } } : Bpdu).enc := (put_setCell (k := 3) h rfl (by decide) _).trans rfl
@[go_sem ↓] theorem Bpdu.get_vector_cost (p : Bpdu) : p.enc.toArray[3]? = some (.int .u32 p.vector.cost) := rfl
@[go_sem] theorem Bpdu.at_vector_cost (p : Bpdu) (h : 3 < p.enc.length) : p.enc[3] = .int .u32 p.vector.cost := rfl
@[go_sem ↓] theorem Bpdu.lget_vector_cost (p : Bpdu) : p.enc[3]? = some (.int .u32 p.vector.cost) := rfl
@[go_sem] theorem Bpdu.cell_vector_bridge {w : World} {b o : Nat} {p : Bpdu} (h : Fit w b o 10) : (put w b o p.enc).cell? ⟨b, o + 4, none⟩ = some (.int .u64 p.vector.bridge) := (put_cell (k := 4) h rfl (by decide)).trans rfl
@[go_sem] theorem Bpdu.set_vector_bridge {w : World} {b o : Nat} {p : Bpdu} (h : Fit w b o 10) (x : Int) : (put w b o p.enc).setCell ⟨b, o + 4, none⟩ (.int .u64 x) = put w b o ({ p with vector := { p.vector with bridge := x } } : Bpdu).enc := (put_setCell (k := 4) h rfl (by decide) _).trans rfl
@[go_sem ↓] theorem Bpdu.get_vector_bridge (p : Bpdu) : p.enc.toArray[4]? = some (.int .u64 p.vector.bridge) := rfl
@[go_sem] theorem Bpdu.at_vector_bridge (p : Bpdu) (h : 4 < p.enc.length) : p.enc[4] = .int .u64 p.vector.bridge := rfl
@[go_sem ↓] theorem Bpdu.lget_vector_bridge (p : Bpdu) : p.enc[4]? = some (.int .u64 p.vector.bridge) := rfl
@[go_sem] theorem Bpdu.cell_vector_port {w : World} {b o : Nat} {p : Bpdu} (h : Fit w b o 10) : (put w b o p.enc).cell? ⟨b, o + 5, none⟩ = some (.int .u16 p.vector.port) := (put_cell (k := 5) h rfl (by decide)).trans rfl
@[go_sem] theorem Bpdu.set_vector_port {w : World} {b o : Nat} {p : Bpdu} (h : Fit w b o 10) (x : Int) : (put w b o p.enc).setCell ⟨b, o + 5, none⟩ (.int .u16 x) = put w b o ({ p with vector := { p.vector with port := x } } : Bpdu).enc := (put_setCell (k := 5) h rfl (by decide) _).trans rfl
@[go_sem ↓] theorem Bpdu.get_vector_port (p : Bpdu) : p.enc.toArray[5]? = some (.int .u16 p.vector.port) := rfl
@[go_sem] theorem Bpdu.at_vector_port (p : Bpdu) (h : 5 < p.enc.length) : p.enc[5] = .int .u16 p.vector.port := rfl
@[go_sem ↓] theorem Bpdu.lget_vector_port (p : Bpdu) : p.enc[5]? = some (.int .u16 p.vector.port) := rfl
@[go_sem] theorem Bpdu.cell_age {w : World} {b o : Nat} {p : Bpdu} (h : Fit w b o 10) : (put w b o p.enc).cell? ⟨b, o + 6, none⟩ = some (.int .u16 p.age) := (put_cell (k := 6) h rfl (by decide)).trans rfl
@[go_sem] theorem Bpdu.set_age {w : World} {b o : Nat} {p : Bpdu} (h : Fit w b o 10) (x : Int) : (put w b o p.enc).setCell ⟨b, o + 6, none⟩ (.int .u16 x) = put w b o ({ p with age := x } : Bpdu).enc := (put_setCell (k := 6) h rfl (by decide) _).trans rfl
@[go_sem ↓] theorem Bpdu.get_age (p : Bpdu) : p.enc.toArray[6]? = some (.int .u16 p.age) := rfl
@[go_sem] theorem Bpdu.at_age (p : Bpdu) (h : 6 < p.enc.length) : p.enc[6] = .int .u16 p.age := rfl
@[go_sem ↓] theorem Bpdu.lget_age (p : Bpdu) : p.enc[6]? = some (.int .u16 p.age) := rfl
@[go_sem] theorem Bpdu.cell_max {w : World} {b o : Nat} {p : Bpdu} (h : Fit w b o 10) : (put w b o p.enc).cell? ⟨b, o + 7, none⟩ = some (.int .u16 p.max) := (put_cell (k := 7) h rfl (by decide)).trans rfl
@[go_sem] theorem Bpdu.set_max {w : World} {b o : Nat} {p : Bpdu} (h : Fit w b o 10) (x : Int) : (put w b o p.enc).setCell ⟨b, o + 7, none⟩ (.int .u16 x) = put w b o ({ p with max := x } : Bpdu).enc := (put_setCell (k := 7) h rfl (by decide) _).trans rfl
@[go_sem ↓] theorem Bpdu.get_max (p : Bpdu) : p.enc.toArray[7]? = some (.int .u16 p.max) := rfl
@[go_sem] theorem Bpdu.at_max (p : Bpdu) (h : 7 < p.enc.length) : p.enc[7] = .int .u16 p.max := rfl
@[go_sem ↓] theorem Bpdu.lget_max (p : Bpdu) : p.enc[7]? = some (.int .u16 p.max) := rfl
@[go_sem] theorem Bpdu.cell_hello {w : World} {b o : Nat} {p : Bpdu} (h : Fit w b o 10) : (put w b o p.enc).cell? ⟨b, o + 8, none⟩ = some (.int .u16 p.hello) := (put_cell (k := 8) h rfl (by decide)).trans rfl
@[go_sem] theorem Bpdu.set_hello {w : World} {b o : Nat} {p : Bpdu} (h : Fit w b o 10) (x : Int) : (put w b o p.enc).setCell ⟨b, o + 8, none⟩ (.int .u16 x) = put w b o ({ p with hello := x } : Bpdu).enc := (put_setCell (k := 8) h rfl (by decide) _).trans rfl
@[go_sem ↓] theorem Bpdu.get_hello (p : Bpdu) : p.enc.toArray[8]? = some (.int .u16 p.hello) := rfl
@[go_sem] theorem Bpdu.at_hello (p : Bpdu) (h : 8 < p.enc.length) : p.enc[8] = .int .u16 p.hello := rfl
@[go_sem ↓] theorem Bpdu.lget_hello (p : Bpdu) : p.enc[8]? = some (.int .u16 p.hello) := rfl
@[go_sem] theorem Bpdu.cell_delay {w : World} {b o : Nat} {p : Bpdu} (h : Fit w b o 10) : (put w b o p.enc).cell? ⟨b, o + 9, none⟩ = some (.int .u16 p.delay) := (put_cell (k := 9) h rfl (by decide)).trans rfl
@[go_sem] theorem Bpdu.set_delay {w : World} {b o : Nat} {p : Bpdu} (h : Fit w b o 10) (x : Int) : (put w b o p.enc).setCell ⟨b, o + 9, none⟩ (.int .u16 x) = put w b o ({ p with delay := x } : Bpdu).enc := (put_setCell (k := 9) h rfl (by decide) _).trans rfl
@[go_sem ↓] theorem Bpdu.get_delay (p : Bpdu) : p.enc.toArray[9]? = some (.int .u16 p.delay) := rfl
@[go_sem] theorem Bpdu.at_delay (p : Bpdu) (h : 9 < p.enc.length) : p.enc[9] = .int .u16 p.delay := rfl
@[go_sem ↓] theorem Bpdu.lget_delay (p : Bpdu) : p.enc[9]? = some (.int .u16 p.delay) := rfl
@[go_sem] theorem Bpdu.frozen {w : World} {b o k : Nat} {p : Bpdu} (h : Fit w b o 10) : (put w b o p.enc).frozen? ⟨b, k, none⟩ = false := put_frozen h
@[go_sem ↓] theorem Bpdu.rd {w : World} {b o : Nat} {p : Bpdu} (h : Fit w b o 10) : rdCells (put w b o p.enc) ⟨b, o, none⟩ 0 10 = some p.enc := rdCells_put h rfl
@[go_sem ↓] theorem Bpdu.wr {w : World} {b o : Nat} {p q : Bpdu} (h : Fit w b o 10) : wrCells (put w b o p.enc) ⟨b, o, none⟩ 0 q.enc = some (put w b o q.enc) := wrCells_put h rfl rfl rfl
@[go_sem ↓] theorem Bpdu.store (P : Program) (a : Addr) (q : Bpdu) (w : World) : (storeCells a q.enc 0).run P w = (match wrCells w a 0 q.enc with | some w' => .ok () w' | none => storeSlow P a q.enc w) := store_wr P a q.enc w
@[go_sem ↓] theorem Bpdu.rd_vector {w : World} {b o : Nat} {p : Bpdu} (h : Fit w b o 10) : rdCells (put w b o p.enc) ⟨b, o + 2, none⟩ 0 4 = some p.vector.enc := rdCells_put_sub (k := 2) h rfl rfl rfl (by decide)
@[go_sem ↓] theorem Bpdu.wr_vector {w : World} {b o : Nat} {p : Bpdu} {q : Vec} (h : Fit w b o 10) : wrCells (put w b o p.enc) ⟨b, o + 2, none⟩ 0 q.enc = some (put w b o ({ p with vector := q } : Bpdu).enc) := wrCells_put_sub (k := 2) (m := 4) h rfl rfl (by decide) rfl rfl
@[go_sem] theorem Bpdu.dt_vector (p : Bpdu) : (p.enc.drop 2).take 4 = p.vector.enc := rfl
@[go_sem ↓] theorem Bpdu.part_vector (p : Bpdu) : p.enc.toArray.extract 2 6 = p.vector.enc.toArray := rfl
@[ext] structure Prt where
  id : Int
  cost : Int
  enabled : Bool
  adminEdge : Bool
  autoEdge : Bool
  pointToPoint : Bool
  edgeDelayWhile : Int
  fdWhile : Int
  helloWhen : Int
  mdelayWhile : Int
  rbWhile : Int
  rcvdInfoWhile : Int
  rrWhile : Int
  tcWhile : Int
  txCount : Int
  agree : Bool
  agreed : Bool
  disputed : Bool
  fdbFlush : Bool
  forward : Bool
  forwarding : Bool
  learn : Bool
  learning : Bool
  mcheck : Bool
  newInfo : Bool
  operEdge : Bool
  proposed : Bool
  proposing : Bool
  reRoot : Bool
  reselect : Bool
  rcvdBPDU : Bool
  rcvdMsg : Bool
  rcvdRSTP : Bool
  rcvdSTP : Bool
  rcvdTc : Bool
  rcvdTcAck : Bool
  rcvdTcn : Bool
  tcAck : Bool
  tcProp : Bool
  selected : Bool
  sendRSTP : Bool
  sync : Bool
  synced : Bool
  updtInfo : Bool
  infoIs : Int
  rcvdInfo : Int
  role : Int
  selectedRole : Int
  designatedVector : Vec
  msgVector : Vec
  vector : Vec
  designatedTimes : Tms
  msgTimes : Tms
  portTimes : Tms
  msg : Bpdu
  prx : Int
  ppm : Int
  bdm : Int
  ptx : Int
  pim : Int
  prt : Int
  pst : Int
  tcm : Int
  deriving DecidableEq, Inhabited
def Prt.zero : Prt := { id := 0, cost := 0, enabled := false, adminEdge := false, autoEdge := false, pointToPoint := false, edgeDelayWhile := 0, fdWhile := 0, helloWhen := 0, mdelayWhile := 0, rbWhile := 0, rcvdInfoWhile := 0, rrWhile := 0, tcWhile := 0, txCount := 0, agree := false, agreed := false, disputed := false, fdbFlush := false, forward := false, forwarding := false, learn := false, learning := false, mcheck := false, newInfo := false, operEdge := false, proposed := false, proposing := false, reRoot := false, reselect := false, rcvdBPDU := false, rcvdMsg := false, rcvdRSTP := false, rcvdSTP := false, rcvdTc := false, rcvdTcAck := false, rcvdTcn := false, tcAck := false, tcProp := false, selected := false, sendRSTP := false, sync := false, synced := false, updtInfo := false, infoIs := 0, rcvdInfo := 0, role := 0, selectedRole := 0, designatedVector := Vec.zero, msgVector := Vec.zero, vector := Vec.zero, designatedTimes := Tms.zero, msgTimes := Tms.zero, portTimes := Tms.zero, msg := Bpdu.zero, prx := 0, ppm := 0, bdm := 0, ptx := 0, pim := 0, prt := 0, pst := 0, tcm := 0 }
/-- The cells of a Prt. -/
def Prt.enc (p : Prt) : List Value := [.int .u16 p.id, .int .u32 p.cost, .bool p.enabled, .bool p.adminEdge, .bool p.autoEdge, .bool p.pointToPoint, .int .i64 p.edgeDelayWhile, .int .i64 p.fdWhile, .int .i64 p.helloWhen, .int .i64 p.mdelayWhile, .int .i64 p.rbWhile, .int .i64 p.rcvdInfoWhile, .int .i64 p.rrWhile, .int .i64 p.tcWhile, .int .i64 p.txCount, .bool p.agree, .bool p.agreed, .bool p.disputed, .bool p.fdbFlush, .bool p.forward, .bool p.forwarding, .bool p.learn, .bool p.learning, .bool p.mcheck, .bool p.newInfo, .bool p.operEdge, .bool p.proposed, .bool p.proposing, .bool p.reRoot, .bool p.reselect, .bool p.rcvdBPDU, .bool p.rcvdMsg, .bool p.rcvdRSTP, .bool p.rcvdSTP, .bool p.rcvdTc, .bool p.rcvdTcAck, .bool p.rcvdTcn, .bool p.tcAck, .bool p.tcProp, .bool p.selected, .bool p.sendRSTP, .bool p.sync, .bool p.synced, .bool p.updtInfo, .int .i64 p.infoIs, .int .i64 p.rcvdInfo, .int .i64 p.role, .int .i64 p.selectedRole, .int .u64 p.designatedVector.root, .int .u32 p.designatedVector.cost, .int .u64 p.designatedVector.bridge, .int .u16 p.designatedVector.port, .int .u64 p.msgVector.root, .int .u32 p.msgVector.cost, .int .u64 p.msgVector.bridge, .int .u16 p.msgVector.port, .int .u64 p.vector.root, .int .u32 p.vector.cost, .int .u64 p.vector.bridge, .int .u16 p.vector.port, .int .i64 p.designatedTimes.age, .int .i64 p.designatedTimes.max, .int .i64 p.designatedTimes.hello, .int .i64 p.designatedTimes.delay, .int .i64 p.msgTimes.age, .int .i64 p.msgTimes.max, .int .i64 p.msgTimes.hello, .int .i64 p.msgTimes.delay, .int .i64 p.portTimes.age, .int .i64 p.portTimes.max, .int .i64 p.portTimes.hello, .int .i64 p.portTimes.delay, .int .i64 p.msg.kind, .int .u8 p.msg.flags, .int .u64 p.msg.vector.root, .int .u32 p.msg.vector.cost, .int .u64 p.msg.vector.bridge, .int .u16 p.msg.vector.port, .int .u16 p.msg.age, .int .u16 p.msg.max, .int .u16 p.msg.hello, .int .u16 p.msg.delay, .int .i64 p.prx, .int .i64 p.ppm, .int .i64 p.bdm, .int .i64 p.ptx, .int .i64 p.pim, .int .i64 p.prt, .int .i64 p.pst, .int .i64 p.tcm]
theorem Prt.zero_lit : #[(Value.int .u16 0), (Value.int .u32 0), (Value.bool false), (Value.bool false), (Value.bool false), (Value.bool false), (Value.int .i64 0), (Value.int .i64 0), (Value.int .i64 0), (Value.int .i64 0), (Value.int .i64 0), (Value.int .i64 0), (Value.int .i64 0), (Value.int .i64 0), (Value.int .i64 0), (Value.bool false), (Value.bool false), (Value.bool false), (Value.bool false), (Value.bool false), (Value.bool false), (Value.bool false), (Value.bool false), (Value.bool false), (Value.bool false), (Value.bool false), (Value.bool false), (Value.bool false), (Value.bool false), (Value.bool false), (Value.bool false), (Value.bool false), (Value.bool false), (Value.bool false), (Value.bool false), (Value.bool false), (Value.bool false), (Value.bool false), (Value.bool false), (Value.bool false), (Value.bool false), (Value.bool false), (Value.bool false), (Value.bool false), (Value.int .i64 0), (Value.int .i64 0), (Value.int .i64 0), (Value.int .i64 0), (Value.int .u64 0), (Value.int .u32 0), (Value.int .u64 0), (Value.int .u16 0), (Value.int .u64 0), (Value.int .u32 0), (Value.int .u64 0), (Value.int .u16 0), (Value.int .u64 0), (Value.int .u32 0), (Value.int .u64 0), (Value.int .u16 0), (Value.int .i64 0), (Value.int .i64 0), (Value.int .i64 0), (Value.int .i64 0), (Value.int .i64 0), (Value.int .i64 0), (Value.int .i64 0), (Value.int .i64 0), (Value.int .i64 0), (Value.int .i64 0), (Value.int .i64 0), (Value.int .i64 0), (Value.int .i64 0), (Value.int .u8 0), (Value.int .u64 0), (Value.int .u32 0), (Value.int .u64 0), (Value.int .u16 0), (Value.int .u16 0), (Value.int .u16 0), (Value.int .u16 0), (Value.int .u16 0), (Value.int .i64 0), (Value.int .i64 0), (Value.int .i64 0), (Value.int .i64 0), (Value.int .i64 0), (Value.int .i64 0), (Value.int .i64 0), (Value.int .i64 0)] = Prt.zero.enc.toArray := rfl
@[simp, go_sem] theorem Prt.length_enc (p : Prt) : p.enc.length = 90 := rfl
@[simp, go_sem] theorem Prt.size_enc (p : Prt) : p.enc.toArray.size = 90 := rfl
@[simp, go_sem] theorem Prt.tk (p : Prt) : p.enc.take 90 = p.enc := rfl
theorem Prt.one (p : Prt) : p.enc.all Value.oneCell' = true := rfl
@[go_sem] theorem Prt.cell_id {w : World} {b o : Nat} {p : Prt} (h : Fit w b o 90) : (put w b o p.enc).cell? ⟨b, o, none⟩ = some (.int .u16 p.id) := (put_cell (k := 0) h rfl (by decide)).trans rfl
@[go_sem] theorem Prt.set_id {w : World} {b o : Nat} {p : Prt} (h : Fit w b o 90) (x : Int) : (put w b o p.enc).setCell ⟨b, o, none⟩ (.int .u16 x) = put w b o ({ p with id := x } : Prt).enc := (put_setCell (k := 0) h rfl (by decide) _).trans rfl
@[go_sem ↓] theorem Prt.get_id (p : Prt) : p.enc.toArray[0]? = some (.int .u16 p.id) := rfl
@[go_sem] theorem Prt.at_id (p : Prt) (h : 0 < p.enc.length) : p.enc[0] = .int .u16 p.id := rfl
@[go_sem ↓] theorem Prt.lget_id (p : Prt) : p.enc[0]? = some (.int .u16 p.id) := rfl
@[go_sem] theorem Prt.cell_cost {w : World} {b o : Nat} {p : Prt} (h : Fit w b o 90) : (put w b o p.enc).cell? ⟨b, o + 1, none⟩ = some (.int .u32 p.cost) := (put_cell (k := 1) h rfl (by decide)).trans rfl
@[go_sem] theorem Prt.set_cost {w : World} {b o : Nat} {p : Prt} (h : Fit w b o 90) (x : Int) : (put w b o p.enc).setCell ⟨b, o + 1, none⟩ (.int .u32 x) = put w b o ({ p with cost := x } : Prt).enc := (put_setCell (k := 1) h rfl (by decide) _).trans rfl
@[go_sem ↓] theorem Prt.get_cost (p : Prt) : p.enc.toArray[1]? = some (.int .u32 p.cost) := rfl
@[go_sem] theorem Prt.at_cost (p : Prt) (h : 1 < p.enc.length) : p.enc[1] = .int .u32 p.cost := rfl
@[go_sem ↓] theorem Prt.lget_cost (p : Prt) : p.enc[1]? = some (.int .u32 p.cost) := rfl
@[go_sem] theorem Prt.cell_enabled {w : World} {b o : Nat} {p : Prt} (h : Fit w b o 90) : (put w b o p.enc).cell? ⟨b, o + 2, none⟩ = some (.bool p.enabled) := (put_cell (k := 2) h rfl (by decide)).trans rfl
@[go_sem] theorem Prt.set_enabled {w : World} {b o : Nat} {p : Prt} (h : Fit w b o 90) (x : Bool) : (put w b o p.enc).setCell ⟨b, o + 2, none⟩ (.bool x) = put w b o ({ p with enabled := x } : Prt).enc := (put_setCell (k := 2) h rfl (by decide) _).trans rfl
@[go_sem ↓] theorem Prt.get_enabled (p : Prt) : p.enc.toArray[2]? = some (.bool p.enabled) := rfl
@[go_sem] theorem Prt.at_enabled (p : Prt) (h : 2 < p.enc.length) : p.enc[2] = .bool p.enabled := rfl
@[go_sem ↓] theorem Prt.lget_enabled (p : Prt) : p.enc[2]? = some (.bool p.enabled) := rfl
@[go_sem] theorem Prt.cell_adminEdge {w : World} {b o : Nat} {p : Prt} (h : Fit w b o 90) : (put w b o p.enc).cell? ⟨b, o + 3, none⟩ = some (.bool p.adminEdge) := (put_cell (k := 3) h rfl (by decide)).trans rfl
@[go_sem] theorem Prt.set_adminEdge {w : World} {b o : Nat} {p : Prt} (h : Fit w b o 90) (x : Bool) : (put w b o p.enc).setCell ⟨b, o + 3, none⟩ (.bool x) = put w b o ({ p with adminEdge := x } : Prt).enc := (put_setCell (k := 3) h rfl (by decide) _).trans rfl
@[go_sem ↓] theorem Prt.get_adminEdge (p : Prt) : p.enc.toArray[3]? = some (.bool p.adminEdge) := rfl
@[go_sem] theorem Prt.at_adminEdge (p : Prt) (h : 3 < p.enc.length) : p.enc[3] = .bool p.adminEdge := rfl
@[go_sem ↓] theorem Prt.lget_adminEdge (p : Prt) : p.enc[3]? = some (.bool p.adminEdge) := rfl
@[go_sem] theorem Prt.cell_autoEdge {w : World} {b o : Nat} {p : Prt} (h : Fit w b o 90) : (put w b o p.enc).cell? ⟨b, o + 4, none⟩ = some (.bool p.autoEdge) := (put_cell (k := 4) h rfl (by decide)).trans rfl
@[go_sem] theorem Prt.set_autoEdge {w : World} {b o : Nat} {p : Prt} (h : Fit w b o 90) (x : Bool) : (put w b o p.enc).setCell ⟨b, o + 4, none⟩ (.bool x) = put w b o ({ p with autoEdge := x } : Prt).enc := (put_setCell (k := 4) h rfl (by decide) _).trans rfl
@[go_sem ↓] theorem Prt.get_autoEdge (p : Prt) : p.enc.toArray[4]? = some (.bool p.autoEdge) := rfl
@[go_sem] theorem Prt.at_autoEdge (p : Prt) (h : 4 < p.enc.length) : p.enc[4] = .bool p.autoEdge := rfl
@[go_sem ↓] theorem Prt.lget_autoEdge (p : Prt) : p.enc[4]? = some (.bool p.autoEdge) := rfl
@[go_sem] theorem Prt.cell_pointToPoint {w : World} {b o : Nat} {p : Prt} (h : Fit w b o 90) : (put w b o p.enc).cell? ⟨b, o + 5, none⟩ = some (.bool p.pointToPoint) := (put_cell (k := 5) h rfl (by decide)).trans rfl
@[go_sem] theorem Prt.set_pointToPoint {w : World} {b o : Nat} {p : Prt} (h : Fit w b o 90) (x : Bool) : (put w b o p.enc).setCell ⟨b, o + 5, none⟩ (.bool x) = put w b o ({ p with pointToPoint := x } : Prt).enc := (put_setCell (k := 5) h rfl (by decide) _).trans rfl
@[go_sem ↓] theorem Prt.get_pointToPoint (p : Prt) : p.enc.toArray[5]? = some (.bool p.pointToPoint) := rfl
@[go_sem] theorem Prt.at_pointToPoint (p : Prt) (h : 5 < p.enc.length) : p.enc[5] = .bool p.pointToPoint := rfl
@[go_sem ↓] theorem Prt.lget_pointToPoint (p : Prt) : p.enc[5]? = some (.bool p.pointToPoint) := rfl
@[go_sem] theorem Prt.cell_edgeDelayWhile {w : World} {b o : Nat} {p : Prt} (h : Fit w b o 90) : (put w b o p.enc).cell? ⟨b, o + 6, none⟩ = some (.int .i64 p.edgeDelayWhile) := (put_cell (k := 6) h rfl (by decide)).trans rfl
@[go_sem] theorem Prt.set_edgeDelayWhile {w : World} {b o : Nat} {p : Prt} (h : Fit w b o 90) (x : Int) : (put w b o p.enc).setCell ⟨b, o + 6, none⟩ (.int .i64 x) = put w b o ({ p with edgeDelayWhile := x } : Prt).enc := (put_setCell (k := 6) h rfl (by decide) _).trans rfl
@[go_sem ↓] theorem Prt.get_edgeDelayWhile (p : Prt) : p.enc.toArray[6]? = some (.int .i64 p.edgeDelayWhile) := rfl
@[go_sem] theorem Prt.at_edgeDelayWhile (p : Prt) (h : 6 < p.enc.length) : p.enc[6] = .int .i64 p.edgeDelayWhile := rfl
@[go_sem ↓] theorem Prt.lget_edgeDelayWhile (p : Prt) : p.enc[6]? = some (.int .i64 p.edgeDelayWhile) := rfl
@[go_sem] theorem Prt.cell_fdWhile {w : World} {b o : Nat} {p : Prt} (h : Fit w b o 90) : (put w b o p.enc).cell? ⟨b, o + 7, none⟩ = some (.int .i64 p.fdWhile) := (put_cell (k := 7) h rfl (by decide)).trans rfl
@[go_sem] theorem Prt.set_fdWhile {w : World} {b o : Nat} {p : Prt} (h : Fit w b o 90) (x : Int) : (put w b o p.enc).setCell ⟨b, o + 7, none⟩ (.int .i64 x) = put w b o ({ p with fdWhile := x } : Prt).enc := (put_setCell (k := 7) h rfl (by decide) _).trans rfl
@[go_sem ↓] theorem Prt.get_fdWhile (p : Prt) : p.enc.toArray[7]? = some (.int .i64 p.fdWhile) := rfl
@[go_sem] theorem Prt.at_fdWhile (p : Prt) (h : 7 < p.enc.length) : p.enc[7] = .int .i64 p.fdWhile := rfl
@[go_sem ↓] theorem Prt.lget_fdWhile (p : Prt) : p.enc[7]? = some (.int .i64 p.fdWhile) := rfl
@[go_sem] theorem Prt.cell_helloWhen {w : World} {b o : Nat} {p : Prt} (h : Fit w b o 90) : (put w b o p.enc).cell? ⟨b, o + 8, none⟩ = some (.int .i64 p.helloWhen) := (put_cell (k := 8) h rfl (by decide)).trans rfl
@[go_sem] theorem Prt.set_helloWhen {w : World} {b o : Nat} {p : Prt} (h : Fit w b o 90) (x : Int) : (put w b o p.enc).setCell ⟨b, o + 8, none⟩ (.int .i64 x) = put w b o ({ p with helloWhen := x } : Prt).enc := (put_setCell (k := 8) h rfl (by decide) _).trans rfl
@[go_sem ↓] theorem Prt.get_helloWhen (p : Prt) : p.enc.toArray[8]? = some (.int .i64 p.helloWhen) := rfl
@[go_sem] theorem Prt.at_helloWhen (p : Prt) (h : 8 < p.enc.length) : p.enc[8] = .int .i64 p.helloWhen := rfl
@[go_sem ↓] theorem Prt.lget_helloWhen (p : Prt) : p.enc[8]? = some (.int .i64 p.helloWhen) := rfl
@[go_sem] theorem Prt.cell_mdelayWhile {w : World} {b o : Nat} {p : Prt} (h : Fit w b o 90) : (put w b o p.enc).cell? ⟨b, o + 9, none⟩ = some (.int .i64 p.mdelayWhile) := (put_cell (k := 9) h rfl (by decide)).trans rfl
@[go_sem] theorem Prt.set_mdelayWhile {w : World} {b o : Nat} {p : Prt} (h : Fit w b o 90) (x : Int) : (put w b o p.enc).setCell ⟨b, o + 9, none⟩ (.int .i64 x) = put w b o ({ p with mdelayWhile := x } : Prt).enc := (put_setCell (k := 9) h rfl (by decide) _).trans rfl
@[go_sem ↓] theorem Prt.get_mdelayWhile (p : Prt) : p.enc.toArray[9]? = some (.int .i64 p.mdelayWhile) := rfl
@[go_sem] theorem Prt.at_mdelayWhile (p : Prt) (h : 9 < p.enc.length) : p.enc[9] = .int .i64 p.mdelayWhile := rfl
@[go_sem ↓] theorem Prt.lget_mdelayWhile (p : Prt) : p.enc[9]? = some (.int .i64 p.mdelayWhile) := rfl
@[go_sem] theorem Prt.cell_rbWhile {w : World} {b o : Nat} {p : Prt} (h : Fit w b o 90) : (put w b o p.enc).cell? ⟨b, o + 10, none⟩ = some (.int .i64 p.rbWhile) := (put_cell (k := 10) h rfl (by decide)).trans rfl
@[go_sem] theorem Prt.set_rbWhile {w : World} {b o : Nat} {p : Prt} (h : Fit w b o 90) (x : Int) : (put w b o p.enc).setCell ⟨b, o + 10, none⟩ (.int .i64 x) = put w b o ({ p with rbWhile := x } : Prt).enc := (put_setCell (k := 10) h rfl (by decide) _).trans rfl
@[go_sem ↓] theorem Prt.get_rbWhile (p : Prt) : p.enc.toArray[10]? = some (.int .i64 p.rbWhile) := rfl
@[go_sem] theorem Prt.at_rbWhile (p : Prt) (h : 10 < p.enc.length) : p.enc[10] = .int .i64 p.rbWhile := rfl
@[go_sem ↓] theorem Prt.lget_rbWhile (p : Prt) : p.enc[10]? = some (.int .i64 p.rbWhile) := rfl
@[go_sem] theorem Prt.cell_rcvdInfoWhile {w : World} {b o : Nat} {p : Prt} (h : Fit w b o 90) : (put w b o p.enc).cell? ⟨b, o + 11, none⟩ = some (.int .i64 p.rcvdInfoWhile) := (put_cell (k := 11) h rfl (by decide)).trans rfl
@[go_sem] theorem Prt.set_rcvdInfoWhile {w : World} {b o : Nat} {p : Prt} (h : Fit w b o 90) (x : Int) : (put w b o p.enc).setCell ⟨b, o + 11, none⟩ (.int .i64 x) = put w b o ({ p with rcvdInfoWhile := x } : Prt).enc := (put_setCell (k := 11) h rfl (by decide) _).trans rfl
@[go_sem ↓] theorem Prt.get_rcvdInfoWhile (p : Prt) : p.enc.toArray[11]? = some (.int .i64 p.rcvdInfoWhile) := rfl
@[go_sem] theorem Prt.at_rcvdInfoWhile (p : Prt) (h : 11 < p.enc.length) : p.enc[11] = .int .i64 p.rcvdInfoWhile := rfl
@[go_sem ↓] theorem Prt.lget_rcvdInfoWhile (p : Prt) : p.enc[11]? = some (.int .i64 p.rcvdInfoWhile) := rfl
@[go_sem] theorem Prt.cell_rrWhile {w : World} {b o : Nat} {p : Prt} (h : Fit w b o 90) : (put w b o p.enc).cell? ⟨b, o + 12, none⟩ = some (.int .i64 p.rrWhile) := (put_cell (k := 12) h rfl (by decide)).trans rfl
@[go_sem] theorem Prt.set_rrWhile {w : World} {b o : Nat} {p : Prt} (h : Fit w b o 90) (x : Int) : (put w b o p.enc).setCell ⟨b, o + 12, none⟩ (.int .i64 x) = put w b o ({ p with rrWhile := x } : Prt).enc := (put_setCell (k := 12) h rfl (by decide) _).trans rfl
@[go_sem ↓] theorem Prt.get_rrWhile (p : Prt) : p.enc.toArray[12]? = some (.int .i64 p.rrWhile) := rfl
@[go_sem] theorem Prt.at_rrWhile (p : Prt) (h : 12 < p.enc.length) : p.enc[12] = .int .i64 p.rrWhile := rfl
@[go_sem ↓] theorem Prt.lget_rrWhile (p : Prt) : p.enc[12]? = some (.int .i64 p.rrWhile) := rfl
@[go_sem] theorem Prt.cell_tcWhile {w : World} {b o : Nat} {p : Prt} (h : Fit w b o 90) : (put w b o p.enc).cell? ⟨b, o + 13, none⟩ = some (.int .i64 p.tcWhile) := (put_cell (k := 13) h rfl (by decide)).trans rfl
@[go_sem] theorem Prt.set_tcWhile {w : World} {b o : Nat} {p : Prt} (h : Fit w b o 90) (x : Int) : (put w b o p.enc).setCell ⟨b, o + 13, none⟩ (.int .i64 x) = put w b o ({ p with tcWhile := x } : Prt).enc := (put_setCell (k := 13) h rfl (by decide) _).trans rfl
@[go_sem ↓] theorem Prt.get_tcWhile (p : Prt) : p.enc.toArray[13]? = some (.int .i64 p.tcWhile) := rfl
@[go_sem] theorem Prt.at_tcWhile (p : Prt) (h : 13 < p.enc.length) : p.enc[13] = .int .i64 p.tcWhile := rfl
@[go_sem ↓] theorem Prt.lget_tcWhile (p : Prt) : p.enc[13]? = some (.int .i64 p.tcWhile) := rfl
@[go_sem] theorem Prt.cell_txCount {w : World} {b o : Nat} {p : Prt} (h : Fit w b o 90) : (put w b o p.enc).cell? ⟨b, o + 14, none⟩ = some (.int .i64 p.txCount) := (put_cell (k := 14) h rfl (by decide)).trans rfl
@[go_sem] theorem Prt.set_txCount {w : World} {b o : Nat} {p : Prt} (h : Fit w b o 90) (x : Int) : (put w b o p.enc).setCell ⟨b, o + 14, none⟩ (.int .i64 x) = put w b o ({ p with txCount := x } : Prt).enc := (put_setCell (k := 14) h rfl (by decide) _).trans rfl
@[go_sem ↓] theorem Prt.get_txCount (p : Prt) : p.enc.toArray[14]? = some (.int .i64 p.txCount) := rfl
@[go_sem] theorem Prt.at_txCount (p : Prt) (h : 14 < p.enc.length) : p.enc[14] = .int .i64 p.txCount := rfl
@[go_sem ↓] theorem Prt.lget_txCount (p : Prt) : p.enc[14]? = some (.int .i64 p.txCount) := rfl
@[go_sem] theorem Prt.cell_agree {w : World} {b o : Nat} {p : Prt} (h : Fit w b o 90) : (put w b o p.enc).cell? ⟨b, o + 15, none⟩ = some (.bool p.agree) := (put_cell (k := 15) h rfl (by decide)).trans rfl
@[go_sem] theorem Prt.set_agree {w : World} {b o : Nat} {p : Prt} (h : Fit w b o 90) (x : Bool) : (put w b o p.enc).setCell ⟨b, o + 15, none⟩ (.bool x) = put w b o ({ p with agree := x } : Prt).enc := (put_setCell (k := 15) h rfl (by decide) _).trans rfl
@[go_sem ↓] theorem Prt.get_agree (p : Prt) : p.enc.toArray[15]? = some (.bool p.agree) := rfl
@[go_sem] theorem Prt.at_agree (p : Prt) (h : 15 < p.enc.length) : p.enc[15] = .bool p.agree := rfl
@[go_sem ↓] theorem Prt.lget_agree (p : Prt) : p.enc[15]? = some (.bool p.agree) := rfl
@[go_sem] theorem Prt.cell_agreed {w : World} {b o : Nat} {p : Prt} (h : Fit w b o 90) : (put w b o p.enc).cell? ⟨b, o + 16, none⟩ = some (.bool p.agreed) := (put_cell (k := 16) h rfl (by decide)).trans rfl
@[go_sem] theorem Prt.set_agreed {w : World} {b o : Nat} {p : Prt} (h : Fit w b o 90) (x : Bool) : (put w b o p.enc).setCell ⟨b, o + 16, none⟩ (.bool x) = put w b o ({ p with agreed := x } : Prt).enc := (put_setCell (k := 16) h rfl (by decide) _).trans rfl
@[go_sem ↓] theorem Prt.get_agreed (p : Prt) : p.enc.toArray[16]? = some (.bool p.agreed) := rfl
@[go_sem] theorem Prt.at_agreed (p : Prt) (h : 16 < p.enc.length) : p.enc[16] = .bool p.agreed := rfl
@[go_sem ↓] theorem Prt.lget_agreed (p : Prt) : p.enc[16]? = some (.bool p.agreed) := rfl
@[go_sem] theorem Prt.cell_disputed {w : World} {b o : Nat} {p : Prt} (h : Fit w b o 90) : (put w b o p.enc).cell? ⟨b, o + 17, none⟩ = some (.bool p.disputed) := (put_cell (k := 17) h rfl (by decide)).trans rfl
@[go_sem] theorem Prt.set_disputed {w : World} {b o : Nat} {p : Prt} (h : Fit w b o 90) (x : Bool) : (put w b o p.enc).setCell ⟨b, o + 17, none⟩ (.bool x) = put w b o ({ p with disputed := x } : Prt).enc := (put_setCell (k := 17) h rfl (by decide) _).trans rfl
@[go_sem ↓] theorem Prt.get_disputed (p : Prt) : p.enc.toArray[17]? = some (.bool p.disputed) := rfl
@[go_sem] theorem Prt.at_disputed (p : Prt) (h : 17 < p.enc.length) : p.enc[17] = .bool p.disputed := rfl
@[go_sem ↓] theorem Prt.lget_disputed (p : Prt) : p.enc[17]? = some (.bool p.disputed) := rfl
@[go_sem] theorem Prt.cell_fdbFlush {w : World} {b o : Nat} {p : Prt} (h : Fit w b o 90) : (put w b o p.enc).cell? ⟨b, o + 18, none⟩ = some (.bool p.fdbFlush) := (put_cell (k := 18) h rfl (by decide)).trans rfl
@[go_sem] theorem Prt.set_fdbFlush {w : World} {b o : Nat} {p : Prt} (h : Fit w b o 90) (x : Bool) : (put w b o p.enc).setCell ⟨b, o + 18, none⟩ (.bool x) = put w b o ({ p with fdbFlush := x } : Prt).enc := (put_setCell (k := 18) h rfl (by decide) _).trans rfl
@[go_sem ↓] theorem Prt.get_fdbFlush (p : Prt) : p.enc.toArray[18]? = some (.bool p.fdbFlush) := rfl
@[go_sem] theorem Prt.at_fdbFlush (p : Prt) (h : 18 < p.enc.length) : p.enc[18] = .bool p.fdbFlush := rfl
@[go_sem ↓] theorem Prt.lget_fdbFlush (p : Prt) : p.enc[18]? = some (.bool p.fdbFlush) := rfl
@[go_sem] theorem Prt.cell_forward {w : World} {b o : Nat} {p : Prt} (h : Fit w b o 90) : (put w b o p.enc).cell? ⟨b, o + 19, none⟩ = some (.bool p.forward) := (put_cell (k := 19) h rfl (by decide)).trans rfl
@[go_sem] theorem Prt.set_forward {w : World} {b o : Nat} {p : Prt} (h : Fit w b o 90) (x : Bool) : (put w b o p.enc).setCell ⟨b, o + 19, none⟩ (.bool x) = put w b o ({ p with forward := x } : Prt).enc := (put_setCell (k := 19) h rfl (by decide) _).trans rfl
@[go_sem ↓] theorem Prt.get_forward (p : Prt) : p.enc.toArray[19]? = some (.bool p.forward) := rfl
@[go_sem] theorem Prt.at_forward (p : Prt) (h : 19 < p.enc.length) : p.enc[19] = .bool p.forward := rfl
@[go_sem ↓] theorem Prt.lget_forward (p : Prt) : p.enc[19]? = some (.bool p.forward) := rfl
@[go_sem] theorem Prt.cell_forwarding {w : World} {b o : Nat} {p : Prt} (h : Fit w b o 90) : (put w b o p.enc).cell? ⟨b, o + 20, none⟩ = some (.bool p.forwarding) := (put_cell (k := 20) h rfl (by decide)).trans rfl
@[go_sem] theorem Prt.set_forwarding {w : World} {b o : Nat} {p : Prt} (h : Fit w b o 90) (x : Bool) : (put w b o p.enc).setCell ⟨b, o + 20, none⟩ (.bool x) = put w b o ({ p with forwarding := x } : Prt).enc := (put_setCell (k := 20) h rfl (by decide) _).trans rfl
@[go_sem ↓] theorem Prt.get_forwarding (p : Prt) : p.enc.toArray[20]? = some (.bool p.forwarding) := rfl
@[go_sem] theorem Prt.at_forwarding (p : Prt) (h : 20 < p.enc.length) : p.enc[20] = .bool p.forwarding := rfl
@[go_sem ↓] theorem Prt.lget_forwarding (p : Prt) : p.enc[20]? = some (.bool p.forwarding) := rfl
@[go_sem] theorem Prt.cell_learn {w : World} {b o : Nat} {p : Prt} (h : Fit w b o 90) : (put w b o p.enc).cell? ⟨b, o + 21, none⟩ = some (.bool p.learn) := (put_cell (k := 21) h rfl (by decide)).trans rfl
@[go_sem] theorem Prt.set_learn {w : World} {b o : Nat} {p : Prt} (h : Fit w b o 90) (x : Bool) : (put w b o p.enc).setCell ⟨b, o + 21, none⟩ (.bool x) = put w b o ({ p with learn := x } : Prt).enc := (put_setCell (k := 21) h rfl (by decide) _).trans rfl
@[go_sem ↓] theorem Prt.get_learn (p : Prt) : p.enc.toArray[21]? = some (.bool p.learn) := rfl
@[go_sem] theorem Prt.at_learn (p : Prt) (h : 21 < p.enc.length) : p.enc[21] = .bool p.learn := rfl
@[go_sem ↓] theorem Prt.lget_learn (p : Prt) : p.enc[21]? = some (.bool p.learn) := rfl
@[go_sem] theorem Prt.cell_learning {w : World} {b o : Nat} {p : Prt} (h : Fit w b o 90) : (put w b o p.enc).cell? ⟨b, o + 22, none⟩ = some (.bool p.learning) := (put_cell (k := 22) h rfl (by decide)).trans rfl
@[go_sem] theorem Prt.set_learning {w : World} {b o : Nat} {p : Prt} (h : Fit w b o 90) (x : Bool) : (put w b o p.enc).setCell ⟨b, o + 22, none⟩ (.bool x) = put w b o ({ p with learning := x } : Prt).enc := (put_setCell (k := 22) h rfl (by decide) _).trans rfl
@[go_sem ↓] theorem Prt.get_learning (p : Prt) : p.enc.toArray[22]? = some (.bool p.learning) := rfl
@[go_sem] theorem Prt.at_learning (p : Prt) (h : 22 < p.enc.length) : p.enc[22] = .bool p.learning := rfl
@[go_sem ↓] theorem Prt.lget_learning (p : Prt) : p.enc[22]? = some (.bool p.learning) := rfl
@[go_sem] theorem Prt.cell_mcheck {w : World} {b o : Nat} {p : Prt} (h : Fit w b o 90) : (put w b o p.enc).cell? ⟨b, o + 23, none⟩ = some (.bool p.mcheck) := (put_cell (k := 23) h rfl (by decide)).trans rfl
@[go_sem] theorem Prt.set_mcheck {w : World} {b o : Nat} {p : Prt} (h : Fit w b o 90) (x : Bool) : (put w b o p.enc).setCell ⟨b, o + 23, none⟩ (.bool x) = put w b o ({ p with mcheck := x } : Prt).enc := (put_setCell (k := 23) h rfl (by decide) _).trans rfl
@[go_sem ↓] theorem Prt.get_mcheck (p : Prt) : p.enc.toArray[23]? = some (.bool p.mcheck) := rfl
@[go_sem] theorem Prt.at_mcheck (p : Prt) (h : 23 < p.enc.length) : p.enc[23] = .bool p.mcheck := rfl
@[go_sem ↓] theorem Prt.lget_mcheck (p : Prt) : p.enc[23]? = some (.bool p.mcheck) := rfl
@[go_sem] theorem Prt.cell_newInfo {w : World} {b o : Nat} {p : Prt} (h : Fit w b o 90) : (put w b o p.enc).cell? ⟨b, o + 24, none⟩ = some (.bool p.newInfo) := (put_cell (k := 24) h rfl (by decide)).trans rfl
@[go_sem] theorem Prt.set_newInfo {w : World} {b o : Nat} {p : Prt} (h : Fit w b o 90) (x : Bool) : (put w b o p.enc).setCell ⟨b, o + 24, none⟩ (.bool x) = put w b o ({ p with newInfo := x } : Prt).enc := (put_setCell (k := 24) h rfl (by decide) _).trans rfl
@[go_sem ↓] theorem Prt.get_newInfo (p : Prt) : p.enc.toArray[24]? = some (.bool p.newInfo) := rfl
@[go_sem] theorem Prt.at_newInfo (p : Prt) (h : 24 < p.enc.length) : p.enc[24] = .bool p.newInfo := rfl
@[go_sem ↓] theorem Prt.lget_newInfo (p : Prt) : p.enc[24]? = some (.bool p.newInfo) := rfl
@[go_sem] theorem Prt.cell_operEdge {w : World} {b o : Nat} {p : Prt} (h : Fit w b o 90) : (put w b o p.enc).cell? ⟨b, o + 25, none⟩ = some (.bool p.operEdge) := (put_cell (k := 25) h rfl (by decide)).trans rfl
@[go_sem] theorem Prt.set_operEdge {w : World} {b o : Nat} {p : Prt} (h : Fit w b o 90) (x : Bool) : (put w b o p.enc).setCell ⟨b, o + 25, none⟩ (.bool x) = put w b o ({ p with operEdge := x } : Prt).enc := (put_setCell (k := 25) h rfl (by decide) _).trans rfl
@[go_sem ↓] theorem Prt.get_operEdge (p : Prt) : p.enc.toArray[25]? = some (.bool p.operEdge) := rfl
@[go_sem] theorem Prt.at_operEdge (p : Prt) (h : 25 < p.enc.length) : p.enc[25] = .bool p.operEdge := rfl
@[go_sem ↓] theorem Prt.lget_operEdge (p : Prt) : p.enc[25]? = some (.bool p.operEdge) := rfl
@[go_sem] theorem Prt.cell_proposed {w : World} {b o : Nat} {p : Prt} (h : Fit w b o 90) : (put w b o p.enc).cell? ⟨b, o + 26, none⟩ = some (.bool p.proposed) := (put_cell (k := 26) h rfl (by decide)).trans rfl
@[go_sem] theorem Prt.set_proposed {w : World} {b o : Nat} {p : Prt} (h : Fit w b o 90) (x : Bool) : (put w b o p.enc).setCell ⟨b, o + 26, none⟩ (.bool x) = put w b o ({ p with proposed := x } : Prt).enc := (put_setCell (k := 26) h rfl (by decide) _).trans rfl
@[go_sem ↓] theorem Prt.get_proposed (p : Prt) : p.enc.toArray[26]? = some (.bool p.proposed) := rfl
@[go_sem] theorem Prt.at_proposed (p : Prt) (h : 26 < p.enc.length) : p.enc[26] = .bool p.proposed := rfl
@[go_sem ↓] theorem Prt.lget_proposed (p : Prt) : p.enc[26]? = some (.bool p.proposed) := rfl
@[go_sem] theorem Prt.cell_proposing {w : World} {b o : Nat} {p : Prt} (h : Fit w b o 90) : (put w b o p.enc).cell? ⟨b, o + 27, none⟩ = some (.bool p.proposing) := (put_cell (k := 27) h rfl (by decide)).trans rfl
@[go_sem] theorem Prt.set_proposing {w : World} {b o : Nat} {p : Prt} (h : Fit w b o 90) (x : Bool) : (put w b o p.enc).setCell ⟨b, o + 27, none⟩ (.bool x) = put w b o ({ p with proposing := x } : Prt).enc := (put_setCell (k := 27) h rfl (by decide) _).trans rfl
@[go_sem ↓] theorem Prt.get_proposing (p : Prt) : p.enc.toArray[27]? = some (.bool p.proposing) := rfl
@[go_sem] theorem Prt.at_proposing (p : Prt) (h : 27 < p.enc.length) : p.enc[27] = .bool p.proposing := rfl
@[go_sem ↓] theorem Prt.lget_proposing (p : Prt) : p.enc[27]? = some (.bool p.proposing) := rfl
@[go_sem] theorem Prt.cell_reRoot {w : World} {b o : Nat} {p : Prt} (h : Fit w b o 90) : (put w b o p.enc).cell? ⟨b, o + 28, none⟩ = some (.bool p.reRoot) := (put_cell (k := 28) h rfl (by decide)).trans rfl
@[go_sem] theorem Prt.set_reRoot {w : World} {b o : Nat} {p : Prt} (h : Fit w b o 90) (x : Bool) : (put w b o p.enc).setCell ⟨b, o + 28, none⟩ (.bool x) = put w b o ({ p with reRoot := x } : Prt).enc := (put_setCell (k := 28) h rfl (by decide) _).trans rfl
@[go_sem ↓] theorem Prt.get_reRoot (p : Prt) : p.enc.toArray[28]? = some (.bool p.reRoot) := rfl
@[go_sem] theorem Prt.at_reRoot (p : Prt) (h : 28 < p.enc.length) : p.enc[28] = .bool p.reRoot := rfl
@[go_sem ↓] theorem Prt.lget_reRoot (p : Prt) : p.enc[28]? = some (.bool p.reRoot) := rfl
@[go_sem] theorem Prt.cell_reselect {w : World} {b o : Nat} {p : Prt} (h : Fit w b o 90) : (put w b o p.enc).cell? ⟨b, o + 29, none⟩ = some (.bool p.reselect) := (put_cell (k := 29) h rfl (by decide)).trans rfl
@[go_sem] theorem Prt.set_reselect {w : World} {b o : Nat} {p : Prt} (h : Fit w b o 90) (x : Bool) : (put w b o p.enc).setCell ⟨b, o + 29, none⟩ (.bool x) = put w b o ({ p with reselect := x } : Prt).enc := (put_setCell (k := 29) h rfl (by decide) _).trans rfl
@[go_sem ↓] theorem Prt.get_reselect (p : Prt) : p.enc.toArray[29]? = some (.bool p.reselect) := rfl
@[go_sem] theorem Prt.at_reselect (p : Prt) (h : 29 < p.enc.length) : p.enc[29] = .bool p.reselect := rfl
@[go_sem ↓] theorem Prt.lget_reselect (p : Prt) : p.enc[29]? = some (.bool p.reselect) := rfl
@[go_sem] theorem Prt.cell_rcvdBPDU {w : World} {b o : Nat} {p : Prt} (h : Fit w b o 90) : (put w b o p.enc).cell? ⟨b, o + 30, none⟩ = some (.bool p.rcvdBPDU) := (put_cell (k := 30) h rfl (by decide)).trans rfl
@[go_sem] theorem Prt.set_rcvdBPDU {w : World} {b o : Nat} {p : Prt} (h : Fit w b o 90) (x : Bool) : (put w b o p.enc).setCell ⟨b, o + 30, none⟩ (.bool x) = put w b o ({ p with rcvdBPDU := x } : Prt).enc := (put_setCell (k := 30) h rfl (by decide) _).trans rfl
@[go_sem ↓] theorem Prt.get_rcvdBPDU (p : Prt) : p.enc.toArray[30]? = some (.bool p.rcvdBPDU) := rfl
@[go_sem] theorem Prt.at_rcvdBPDU (p : Prt) (h : 30 < p.enc.length) : p.enc[30] = .bool p.rcvdBPDU := rfl
@[go_sem ↓] theorem Prt.lget_rcvdBPDU (p : Prt) : p.enc[30]? = some (.bool p.rcvdBPDU) := rfl
@[go_sem] theorem Prt.cell_rcvdMsg {w : World} {b o : Nat} {p : Prt} (h : Fit w b o 90) : (put w b o p.enc).cell? ⟨b, o + 31, none⟩ = some (.bool p.rcvdMsg) := (put_cell (k := 31) h rfl (by decide)).trans rfl
@[go_sem] theorem Prt.set_rcvdMsg {w : World} {b o : Nat} {p : Prt} (h : Fit w b o 90) (x : Bool) : (put w b o p.enc).setCell ⟨b, o + 31, none⟩ (.bool x) = put w b o ({ p with rcvdMsg := x } : Prt).enc := (put_setCell (k := 31) h rfl (by decide) _).trans rfl
@[go_sem ↓] theorem Prt.get_rcvdMsg (p : Prt) : p.enc.toArray[31]? = some (.bool p.rcvdMsg) := rfl
@[go_sem] theorem Prt.at_rcvdMsg (p : Prt) (h : 31 < p.enc.length) : p.enc[31] = .bool p.rcvdMsg := rfl
@[go_sem ↓] theorem Prt.lget_rcvdMsg (p : Prt) : p.enc[31]? = some (.bool p.rcvdMsg) := rfl
@[go_sem] theorem Prt.cell_rcvdRSTP {w : World} {b o : Nat} {p : Prt} (h : Fit w b o 90) : (put w b o p.enc).cell? ⟨b, o + 32, none⟩ = some (.bool p.rcvdRSTP) := (put_cell (k := 32) h rfl (by decide)).trans rfl
@[go_sem] theorem Prt.set_rcvdRSTP {w : World} {b o : Nat} {p : Prt} (h : Fit w b o 90) (x : Bool) : (put w b o p.enc).setCell ⟨b, o + 32, none⟩ (.bool x) = put w b o ({ p with rcvdRSTP := x } : Prt).enc := (put_setCell (k := 32) h rfl (by decide) _).trans rfl
@[go_sem ↓] theorem Prt.get_rcvdRSTP (p : Prt) : p.enc.toArray[32]? = some (.bool p.rcvdRSTP) := rfl
@[go_sem] theorem Prt.at_rcvdRSTP (p : Prt) (h : 32 < p.enc.length) : p.enc[32] = .bool p.rcvdRSTP := rfl
@[go_sem ↓] theorem Prt.lget_rcvdRSTP (p : Prt) : p.enc[32]? = some (.bool p.rcvdRSTP) := rfl
@[go_sem] theorem Prt.cell_rcvdSTP {w : World} {b o : Nat} {p : Prt} (h : Fit w b o 90) : (put w b o p.enc).cell? ⟨b, o + 33, none⟩ = some (.bool p.rcvdSTP) := (put_cell (k := 33) h rfl (by decide)).trans rfl
@[go_sem] theorem Prt.set_rcvdSTP {w : World} {b o : Nat} {p : Prt} (h : Fit w b o 90) (x : Bool) : (put w b o p.enc).setCell ⟨b, o + 33, none⟩ (.bool x) = put w b o ({ p with rcvdSTP := x } : Prt).enc := (put_setCell (k := 33) h rfl (by decide) _).trans rfl
@[go_sem ↓] theorem Prt.get_rcvdSTP (p : Prt) : p.enc.toArray[33]? = some (.bool p.rcvdSTP) := rfl
@[go_sem] theorem Prt.at_rcvdSTP (p : Prt) (h : 33 < p.enc.length) : p.enc[33] = .bool p.rcvdSTP := rfl
@[go_sem ↓] theorem Prt.lget_rcvdSTP (p : Prt) : p.enc[33]? = some (.bool p.rcvdSTP) := rfl
@[go_sem] theorem Prt.cell_rcvdTc {w : World} {b o : Nat} {p : Prt} (h : Fit w b o 90) : (put w b o p.enc).cell? ⟨b, o + 34, none⟩ = some (.bool p.rcvdTc) := (put_cell (k := 34) h rfl (by decide)).trans rfl
@[go_sem] theorem Prt.set_rcvdTc {w : World} {b o : Nat} {p : Prt} (h : Fit w b o 90) (x : Bool) : (put w b o p.enc).setCell ⟨b, o + 34, none⟩ (.bool x) = put w b o ({ p with rcvdTc := x } : Prt).enc := (put_setCell (k := 34) h rfl (by decide) _).trans rfl
@[go_sem ↓] theorem Prt.get_rcvdTc (p : Prt) : p.enc.toArray[34]? = some (.bool p.rcvdTc) := rfl
@[go_sem] theorem Prt.at_rcvdTc (p : Prt) (h : 34 < p.enc.length) : p.enc[34] = .bool p.rcvdTc := rfl
@[go_sem ↓] theorem Prt.lget_rcvdTc (p : Prt) : p.enc[34]? = some (.bool p.rcvdTc) := rfl
@[go_sem] theorem Prt.cell_rcvdTcAck {w : World} {b o : Nat} {p : Prt} (h : Fit w b o 90) : (put w b o p.enc).cell? ⟨b, o + 35, none⟩ = some (.bool p.rcvdTcAck) := (put_cell (k := 35) h rfl (by decide)).trans rfl
@[go_sem] theorem Prt.set_rcvdTcAck {w : World} {b o : Nat} {p : Prt} (h : Fit w b o 90) (x : Bool) : (put w b o p.enc).setCell ⟨b, o + 35, none⟩ (.bool x) = put w b o ({ p with rcvdTcAck := x } : Prt).enc := (put_setCell (k := 35) h rfl (by decide) _).trans rfl
@[go_sem ↓] theorem Prt.get_rcvdTcAck (p : Prt) : p.enc.toArray[35]? = some (.bool p.rcvdTcAck) := rfl
@[go_sem] theorem Prt.at_rcvdTcAck (p : Prt) (h : 35 < p.enc.length) : p.enc[35] = .bool p.rcvdTcAck := rfl
@[go_sem ↓] theorem Prt.lget_rcvdTcAck (p : Prt) : p.enc[35]? = some (.bool p.rcvdTcAck) := rfl
@[go_sem] theorem Prt.cell_rcvdTcn {w : World} {b o : Nat} {p : Prt} (h : Fit w b o 90) : (put w b o p.enc).cell? ⟨b, o + 36, none⟩ = some (.bool p.rcvdTcn) := (put_cell (k := 36) h rfl (by decide)).trans rfl
@[go_sem] theorem Prt.set_rcvdTcn {w : World} {b o : Nat} {p : Prt} (h : Fit w b o 90) (x : Bool) : (put w b o p.enc).setCell ⟨b, o + 36, none⟩ (.bool x) = put w b o ({ p with rcvdTcn := x } : Prt).enc := (put_setCell (k := 36) h rfl (by decide) _).trans rfl
@[go_sem ↓] theorem Prt.get_rcvdTcn (p : Prt) : p.enc.toArray[36]? = some (.bool p.rcvdTcn) := rfl
@[go_sem] theorem Prt.at_rcvdTcn (p : Prt) (h : 36 < p.enc.length) : p.enc[36] = .bool p.rcvdTcn := rfl
@[go_sem ↓] theorem Prt.lget_rcvdTcn (p : Prt) : p.enc[36]? = some (.bool p.rcvdTcn) := rfl
@[go_sem] theorem Prt.cell_tcAck {w : World} {b o : Nat} {p : Prt} (h : Fit w b o 90) : (put w b o p.enc).cell? ⟨b, o + 37, none⟩ = some (.bool p.tcAck) := (put_cell (k := 37) h rfl (by decide)).trans rfl
@[go_sem] theorem Prt.set_tcAck {w : World} {b o : Nat} {p : Prt} (h : Fit w b o 90) (x : Bool) : (put w b o p.enc).setCell ⟨b, o + 37, none⟩ (.bool x) = put w b o ({ p with tcAck := x } : Prt).enc := (put_setCell (k := 37) h rfl (by decide) _).trans rfl
@[go_sem ↓] theorem Prt.get_tcAck (p : Prt) : p.enc.toArray[37]? = some (.bool p.tcAck) := rfl
@[go_sem] theorem Prt.at_tcAck (p : Prt) (h : 37 < p.enc.length) : p.enc[37] = .bool p.tcAck := rfl
@[go_sem ↓] theorem Prt.lget_tcAck (p : Prt) : p.enc[37]? = some (.bool p.tcAck) := rfl
@[go_sem] theorem Prt.cell_tcProp {w : World} {b o : Nat} {p : Prt} (h : Fit w b o 90) : (put w b o p.enc).cell? ⟨b, o + 38, none⟩ = some (.bool p.tcProp) := (put_cell (k := 38) h rfl (by decide)).trans rfl
@[go_sem] theorem Prt.set_tcProp {w : World} {b o : Nat} {p : Prt} (h : Fit w b o 90) (x : Bool) : (put w b o p.enc).setCell ⟨b, o + 38, none⟩ (.bool x) = put w b o ({ p with tcProp := x } : Prt).enc := (put_setCell (k := 38) h rfl (by decide) _).trans rfl
@[go_sem ↓] theorem Prt.get_tcProp (p : Prt) : p.enc.toArray[38]? = some (.bool p.tcProp) := rfl
@[go_sem] theorem Prt.at_tcProp (p : Prt) (h : 38 < p.enc.length) : p.enc[38] = .bool p.tcProp := rfl
@[go_sem ↓] theorem Prt.lget_tcProp (p : Prt) : p.enc[38]? = some (.bool p.tcProp) := rfl
@[go_sem] theorem Prt.cell_selected {w : World} {b o : Nat} {p : Prt} (h : Fit w b o 90) : (put w b o p.enc).cell? ⟨b, o + 39, none⟩ = some (.bool p.selected) := (put_cell (k := 39) h rfl (by decide)).trans rfl
@[go_sem] theorem Prt.set_selected {w : World} {b o : Nat} {p : Prt} (h : Fit w b o 90) (x : Bool) : (put w b o p.enc).setCell ⟨b, o + 39, none⟩ (.bool x) = put w b o ({ p with selected := x } : Prt).enc := (put_setCell (k := 39) h rfl (by decide) _).trans rfl
@[go_sem ↓] theorem Prt.get_selected (p : Prt) : p.enc.toArray[39]? = some (.bool p.selected) := rfl
@[go_sem] theorem Prt.at_selected (p : Prt) (h : 39 < p.enc.length) : p.enc[39] = .bool p.selected := rfl
@[go_sem ↓] theorem Prt.lget_selected (p : Prt) : p.enc[39]? = some (.bool p.selected) := rfl
@[go_sem] theorem Prt.cell_sendRSTP {w : World} {b o : Nat} {p : Prt} (h : Fit w b o 90) : (put w b o p.enc).cell? ⟨b, o + 40, none⟩ = some (.bool p.sendRSTP) := (put_cell (k := 40) h rfl (by decide)).trans rfl
@[go_sem] theorem Prt.set_sendRSTP {w : World} {b o : Nat} {p : Prt} (h : Fit w b o 90) (x : Bool) : (put w b o p.enc).setCell ⟨b, o + 40, none⟩ (.bool x) = put w b o ({ p with sendRSTP := x } : Prt).enc := (put_setCell (k := 40) h rfl (by decide) _).trans rfl
@[go_sem ↓] theorem Prt.get_sendRSTP (p : Prt) : p.enc.toArray[40]? = some (.bool p.sendRSTP) := rfl
@[go_sem] theorem Prt.at_sendRSTP (p : Prt) (h : 40 < p.enc.length) : p.enc[40] = .bool p.sendRSTP := rfl
@[go_sem ↓] theorem Prt.lget_sendRSTP (p : Prt) : p.enc[40]? = some (.bool p.sendRSTP) := rfl
@[go_sem] theorem Prt.cell_sync {w : World} {b o : Nat} {p : Prt} (h : Fit w b o 90) : (put w b o p.enc).cell? ⟨b, o + 41, none⟩ = some (.bool p.sync) := (put_cell (k := 41) h rfl (by decide)).trans rfl
@[go_sem] theorem Prt.set_sync {w : World} {b o : Nat} {p : Prt} (h : Fit w b o 90) (x : Bool) : (put w b o p.enc).setCell ⟨b, o + 41, none⟩ (.bool x) = put w b o ({ p with sync := x } : Prt).enc := (put_setCell (k := 41) h rfl (by decide) _).trans rfl
@[go_sem ↓] theorem Prt.get_sync (p : Prt) : p.enc.toArray[41]? = some (.bool p.sync) := rfl
@[go_sem] theorem Prt.at_sync (p : Prt) (h : 41 < p.enc.length) : p.enc[41] = .bool p.sync := rfl
@[go_sem ↓] theorem Prt.lget_sync (p : Prt) : p.enc[41]? = some (.bool p.sync) := rfl
@[go_sem] theorem Prt.cell_synced {w : World} {b o : Nat} {p : Prt} (h : Fit w b o 90) : (put w b o p.enc).cell? ⟨b, o + 42, none⟩ = some (.bool p.synced) := (put_cell (k := 42) h rfl (by decide)).trans rfl
@[go_sem] theorem Prt.set_synced {w : World} {b o : Nat} {p : Prt} (h : Fit w b o 90) (x : Bool) : (put w b o p.enc).setCell ⟨b, o + 42, none⟩ (.bool x) = put w b o ({ p with synced := x } : Prt).enc := (put_setCell (k := 42) h rfl (by decide) _).trans rfl
@[go_sem ↓] theorem Prt.get_synced (p : Prt) : p.enc.toArray[42]? = some (.bool p.synced) := rfl
@[go_sem] theorem Prt.at_synced (p : Prt) (h : 42 < p.enc.length) : p.enc[42] = .bool p.synced := rfl
@[go_sem ↓] theorem Prt.lget_synced (p : Prt) : p.enc[42]? = some (.bool p.synced) := rfl
@[go_sem] theorem Prt.cell_updtInfo {w : World} {b o : Nat} {p : Prt} (h : Fit w b o 90) : (put w b o p.enc).cell? ⟨b, o + 43, none⟩ = some (.bool p.updtInfo) := (put_cell (k := 43) h rfl (by decide)).trans rfl
@[go_sem] theorem Prt.set_updtInfo {w : World} {b o : Nat} {p : Prt} (h : Fit w b o 90) (x : Bool) : (put w b o p.enc).setCell ⟨b, o + 43, none⟩ (.bool x) = put w b o ({ p with updtInfo := x } : Prt).enc := (put_setCell (k := 43) h rfl (by decide) _).trans rfl
@[go_sem ↓] theorem Prt.get_updtInfo (p : Prt) : p.enc.toArray[43]? = some (.bool p.updtInfo) := rfl
@[go_sem] theorem Prt.at_updtInfo (p : Prt) (h : 43 < p.enc.length) : p.enc[43] = .bool p.updtInfo := rfl
@[go_sem ↓] theorem Prt.lget_updtInfo (p : Prt) : p.enc[43]? = some (.bool p.updtInfo) := rfl
@[go_sem] theorem Prt.cell_infoIs {w : World} {b o : Nat} {p : Prt} (h : Fit w b o 90) : (put w b o p.enc).cell? ⟨b, o + 44, none⟩ = some (.int .i64 p.infoIs) := (put_cell (k := 44) h rfl (by decide)).trans rfl
@[go_sem] theorem Prt.set_infoIs {w : World} {b o : Nat} {p : Prt} (h : Fit w b o 90) (x : Int) : (put w b o p.enc).setCell ⟨b, o + 44, none⟩ (.int .i64 x) = put w b o ({ p with infoIs := x } : Prt).enc := (put_setCell (k := 44) h rfl (by decide) _).trans rfl
@[go_sem ↓] theorem Prt.get_infoIs (p : Prt) : p.enc.toArray[44]? = some (.int .i64 p.infoIs) := rfl
@[go_sem] theorem Prt.at_infoIs (p : Prt) (h : 44 < p.enc.length) : p.enc[44] = .int .i64 p.infoIs := rfl
@[go_sem ↓] theorem Prt.lget_infoIs (p : Prt) : p.enc[44]? = some (.int .i64 p.infoIs) := rfl
@[go_sem] theorem Prt.cell_rcvdInfo {w : World} {b o : Nat} {p : Prt} (h : Fit w b o 90) : (put w b o p.enc).cell? ⟨b, o + 45, none⟩ = some (.int .i64 p.rcvdInfo) := (put_cell (k := 45) h rfl (by decide)).trans rfl
@[go_sem] theorem Prt.set_rcvdInfo {w : World} {b o : Nat} {p : Prt} (h : Fit w b o 90) (x : Int) : (put w b o p.enc).setCell ⟨b, o + 45, none⟩ (.int .i64 x) = put w b o ({ p with rcvdInfo := x } : Prt).enc := (put_setCell (k := 45) h rfl (by decide) _).trans rfl
@[go_sem ↓] theorem Prt.get_rcvdInfo (p : Prt) : p.enc.toArray[45]? = some (.int .i64 p.rcvdInfo) := rfl
@[go_sem] theorem Prt.at_rcvdInfo (p : Prt) (h : 45 < p.enc.length) : p.enc[45] = .int .i64 p.rcvdInfo := rfl
@[go_sem ↓] theorem Prt.lget_rcvdInfo (p : Prt) : p.enc[45]? = some (.int .i64 p.rcvdInfo) := rfl
@[go_sem] theorem Prt.cell_role {w : World} {b o : Nat} {p : Prt} (h : Fit w b o 90) : (put w b o p.enc).cell? ⟨b, o + 46, none⟩ = some (.int .i64 p.role) := (put_cell (k := 46) h rfl (by decide)).trans rfl
@[go_sem] theorem Prt.set_role {w : World} {b o : Nat} {p : Prt} (h : Fit w b o 90) (x : Int) : (put w b o p.enc).setCell ⟨b, o + 46, none⟩ (.int .i64 x) = put w b o ({ p with role := x } : Prt).enc := (put_setCell (k := 46) h rfl (by decide) _).trans rfl
@[go_sem ↓] theorem Prt.get_role (p : Prt) : p.enc.toArray[46]? = some (.int .i64 p.role) := rfl
@[go_sem] theorem Prt.at_role (p : Prt) (h : 46 < p.enc.length) : p.enc[46] = .int .i64 p.role := rfl
@[go_sem ↓] theorem Prt.lget_role (p : Prt) : p.enc[46]? = some (.int .i64 p.role) := rfl
@[go_sem] theorem Prt.cell_selectedRole {w : World} {b o : Nat} {p : Prt} (h : Fit w b o 90) : (put w b o p.enc).cell? ⟨b, o + 47, none⟩ = some (.int .i64 p.selectedRole) := (put_cell (k := 47) h rfl (by decide)).trans rfl
@[go_sem] theorem Prt.set_selectedRole {w : World} {b o : Nat} {p : Prt} (h : Fit w b o 90) (x : Int) : (put w b o p.enc).setCell ⟨b, o + 47, none⟩ (.int .i64 x) = put w b o ({ p with selectedRole := x } : Prt).enc := (put_setCell (k := 47) h rfl (by decide) _).trans rfl
@[go_sem ↓] theorem Prt.get_selectedRole (p : Prt) : p.enc.toArray[47]? = some (.int .i64 p.selectedRole) := rfl
@[go_sem] theorem Prt.at_selectedRole (p : Prt) (h : 47 < p.enc.length) : p.enc[47] = .int .i64 p.selectedRole := rfl
@[go_sem ↓] theorem Prt.lget_selectedRole (p : Prt) : p.enc[47]? = some (.int .i64 p.selectedRole) := rfl
@[go_sem] theorem Prt.cell_designatedVector_root {w : World} {b o : Nat} {p : Prt} (h : Fit w b o 90) : (put w b o p.enc).cell? ⟨b, o + 48, none⟩ = some (.int .u64 p.designatedVector.root) := (put_cell (k := 48) h rfl (by decide)).trans rfl
@[go_sem] theorem Prt.set_designatedVector_root {w : World} {b o : Nat} {p : Prt} (h : Fit w b o 90) (x : Int) : (put w b o p.enc).setCell ⟨b, o + 48, none⟩ (.int .u64 x) = put w b o ({ p with designatedVector := { p.designatedVector with root := x } } : Prt).enc := (put_setCell (k := 48) h rfl (by decide) _).trans rfl
@[go_sem ↓] theorem Prt.get_designatedVector_root (p : Prt) : p.enc.toArray[48]? = some (.int .u64 p.designatedVector.root) := rfl
@[go_sem] theorem Prt.at_designatedVector_root (p : Prt) (h : 48 < p.enc.length) : p.enc[48] = .int .u64 p.designatedVector.root := rfl
@[go_sem ↓] theorem Prt.lget_designatedVector_root (p : Prt) : p.enc[48]? = some (.int .u64 p.designatedVector.root) := rfl
@[go_sem] theorem Prt.cell_designatedVector_cost {w : World} {b o : Nat} {p : Prt} (h : Fit w b o 90) : (put w b o p.enc).cell? ⟨b, o + 49, none⟩ = some (.int .u32 p.designatedVector.cost) := (put_cell (k := 49) h rfl (by decide)).trans rfl
@[go_sem] theorem Prt.set_designatedVector_cost {w : World} {b o : Nat} {p : Prt} (h : Fit w b o 90) (x : Int) : (put w b o p.enc).setCell ⟨b, o + 49, none⟩ (.int .u32 x) = put w b o ({ p with designatedVector := { p.designatedVector with cost := x } } : Prt).enc := (put_setCell (k := 49) h rfl (by decide) _).trans rfl
@[go_sem ↓] theorem Prt.get_designatedVector_cost (p : Prt) : p.enc.toArray[49]? = some (.int .u32 p.designatedVector.cost) := rfl
@[go_sem] theorem Prt.at_designatedVector_cost (p : Prt) (h : 49 < p.enc.length) : p.enc[49] = .int .u32 p.designatedVector.cost := rfl
@[go_sem ↓] theorem Prt.lget_designatedVector_cost (p : Prt) : p.enc[49]? = some (.int .u32 p.designatedVector.cost) := rfl
@[go_sem] theorem Prt.cell_designatedVector_bridge {w : World} {b o : Nat} {p : Prt} (h : Fit w b o 90) : (put w b o p.enc).cell? ⟨b, o + 50, none⟩ = some (.int .u64 p.designatedVector.bridge) := (put_cell (k := 50) h rfl (by decide)).trans rfl
@[go_sem] theorem Prt.set_designatedVector_bridge {w : World} {b o : Nat} {p : Prt} (h : Fit w b o 90) (x : Int) : (put w b o p.enc).setCell ⟨b, o + 50, none⟩ (.int .u64 x) = put w b o ({ p with designatedVector := { p.designatedVector with bridge := x } } : Prt).enc := (put_setCell (k := 50) h rfl (by decide) _).trans rfl
@[go_sem ↓] theorem Prt.get_designatedVector_bridge (p : Prt) : p.enc.toArray[50]? = some (.int .u64 p.designatedVector.bridge) := rfl
@[go_sem] theorem Prt.at_designatedVector_bridge (p : Prt) (h : 50 < p.enc.length) : p.enc[50] = .int .u64 p.designatedVector.bridge := rfl
@[go_sem ↓] theorem Prt.lget_designatedVector_bridge (p : Prt) : p.enc[50]? = some (.int .u64 p.designatedVector.bridge) := rfl
@[go_sem] theorem Prt.cell_designatedVector_port {w : World} {b o : Nat} {p : Prt} (h : Fit w b o 90) : (put w b o p.enc).cell? ⟨b, o + 51, none⟩ = some (.int .u16 p.designatedVector.port) := (put_cell (k := 51) h rfl (by decide)).trans rfl
@[go_sem] theorem Prt.set_designatedVector_port {w : World} {b o : Nat} {p : Prt} (h : Fit w b o 90) (x : Int) : (put w b o p.enc).setCell ⟨b, o + 51, none⟩ (.int .u16 x) = put w b o ({ p with designatedVector := { p.designatedVector with port := x } } : Prt).enc := (put_setCell (k := 51) h rfl (by decide) _).trans rfl
@[go_sem ↓] theorem Prt.get_designatedVector_port (p : Prt) : p.enc.toArray[51]? = some (.int .u16 p.designatedVector.port) := rfl
@[go_sem] theorem Prt.at_designatedVector_port (p : Prt) (h : 51 < p.enc.length) : p.enc[51] = .int .u16 p.designatedVector.port := rfl
@[go_sem ↓] theorem Prt.lget_designatedVector_port (p : Prt) : p.enc[51]? = some (.int .u16 p.designatedVector.port) := rfl
@[go_sem] theorem Prt.cell_msgVector_root {w : World} {b o : Nat} {p : Prt} (h : Fit w b o 90) : (put w b o p.enc).cell? ⟨b, o + 52, none⟩ = some (.int .u64 p.msgVector.root) := (put_cell (k := 52) h rfl (by decide)).trans rfl
@[go_sem] theorem Prt.set_msgVector_root {w : World} {b o : Nat} {p : Prt} (h : Fit w b o 90) (x : Int) : (put w b o p.enc).setCell ⟨b, o + 52, none⟩ (.int .u64 x) = put w b o ({ p with msgVector := { p.msgVector with root := x } } : Prt).enc := (put_setCell (k := 52) h rfl (by decide) _).trans rfl
@[go_sem ↓] theorem Prt.get_msgVector_root (p : Prt) : p.enc.toArray[52]? = some (.int .u64 p.msgVector.root) := rfl
@[go_sem] theorem Prt.at_msgVector_root (p : Prt) (h : 52 < p.enc.length) : p.enc[52] = .int .u64 p.msgVector.root := rfl
@[go_sem ↓] theorem Prt.lget_msgVector_root (p : Prt) : p.enc[52]? = some (.int .u64 p.msgVector.root) := rfl
@[go_sem] theorem Prt.cell_msgVector_cost {w : World} {b o : Nat} {p : Prt} (h : Fit w b o 90) : (put w b o p.enc).cell? ⟨b, o + 53, none⟩ = some (.int .u32 p.msgVector.cost) := (put_cell (k := 53) h rfl (by decide)).trans rfl
@[go_sem] theorem Prt.set_msgVector_cost {w : World} {b o : Nat} {p : Prt} (h : Fit w b o 90) (x : Int) : (put w b o p.enc).setCell ⟨b, o + 53, none⟩ (.int .u32 x) = put w b o ({ p with msgVector := { p.msgVector with cost := x } } : Prt).enc := (put_setCell (k := 53) h rfl (by decide) _).trans rfl
@[go_sem ↓] theorem Prt.get_msgVector_cost (p : Prt) : p.enc.toArray[53]? = some (.int .u32 p.msgVector.cost) := rfl
@[go_sem] theorem Prt.at_msgVector_cost (p : Prt) (h : 53 < p.enc.length) : p.enc[53] = .int .u32 p.msgVector.cost := rfl
@[go_sem ↓] theorem Prt.lget_msgVector_cost (p : Prt) : p.enc[53]? = some (.int .u32 p.msgVector.cost) := rfl
@[go_sem] theorem Prt.cell_msgVector_bridge {w : World} {b o : Nat} {p : Prt} (h : Fit w b o 90) : (put w b o p.enc).cell? ⟨b, o + 54, none⟩ = some (.int .u64 p.msgVector.bridge) := (put_cell (k := 54) h rfl (by decide)).trans rfl
@[go_sem] theorem Prt.set_msgVector_bridge {w : World} {b o : Nat} {p : Prt} (h : Fit w b o 90) (x : Int) : (put w b o p.enc).setCell ⟨b, o + 54, none⟩ (.int .u64 x) = put w b o ({ p with msgVector := { p.msgVector with bridge := x } } : Prt).enc := (put_setCell (k := 54) h rfl (by decide) _).trans rfl
@[go_sem ↓] theorem Prt.get_msgVector_bridge (p : Prt) : p.enc.toArray[54]? = some (.int .u64 p.msgVector.bridge) := rfl
@[go_sem] theorem Prt.at_msgVector_bridge (p : Prt) (h : 54 < p.enc.length) : p.enc[54] = .int .u64 p.msgVector.bridge := rfl
@[go_sem ↓] theorem Prt.lget_msgVector_bridge (p : Prt) : p.enc[54]? = some (.int .u64 p.msgVector.bridge) := rfl
@[go_sem] theorem Prt.cell_msgVector_port {w : World} {b o : Nat} {p : Prt} (h : Fit w b o 90) : (put w b o p.enc).cell? ⟨b, o + 55, none⟩ = some (.int .u16 p.msgVector.port) := (put_cell (k := 55) h rfl (by decide)).trans rfl
@[go_sem] theorem Prt.set_msgVector_port {w : World} {b o : Nat} {p : Prt} (h : Fit w b o 90) (x : Int) : (put w b o p.enc).setCell ⟨b, o + 55, none⟩ (.int .u16 x) = put w b o ({ p with msgVector := { p.msgVector with port := x } } : Prt).enc := (put_setCell (k := 55) h rfl (by decide) _).trans rfl
@[go_sem ↓] theorem Prt.get_msgVector_port (p : Prt) : p.enc.toArray[55]? = some (.int .u16 p.msgVector.port) := rfl
@[go_sem] theorem Prt.at_msgVector_port (p : Prt) (h : 55 < p.enc.length) : p.enc[55] = .int .u16 p.msgVector.port := rfl
@[go_sem ↓] theorem Prt.lget_msgVector_port (p : Prt) : p.enc[55]? = some (.int .u16 p.msgVector.port) := rfl
@[go_sem] theorem Prt.cell_vector_root {w : World} {b o : Nat} {p : Prt} (h : Fit w b o 90) : (put w b o p.enc).cell? ⟨b, o + 56, none⟩ = some (.int .u64 p.vector.root) := (put_cell (k := 56) h rfl (by decide)).trans rfl
@[go_sem] theorem Prt.set_vector_root {w : World} {b o : Nat} {p : Prt} (h : Fit w b o 90) (x : Int) : (put w b o p.enc).setCell ⟨b, o + 56, none⟩ (.int .u64 x) = put w b o ({ p with vector := { p.vector with root := x } } : Prt).enc := (put_setCell (k := 56) h rfl (by decide) _).trans rfl
@[go_sem ↓] theorem Prt.get_vector_root (p : Prt) : p.enc.toArray[56]? = some (.int .u64 p.vector.root) := rfl
@[go_sem] theorem Prt.at_vector_root (p : Prt) (h : 56 < p.enc.length) : p.enc[56] = .int .u64 p.vector.root := rfl
@[go_sem ↓] theorem Prt.lget_vector_root (p : Prt) : p.enc[56]? = some (.int .u64 p.vector.root) := rfl
@[go_sem] theorem Prt.cell_vector_cost {w : World} {b o : Nat} {p : Prt} (h : Fit w b o 90) : (put w b o p.enc).cell? ⟨b, o + 57, none⟩ = some (.int .u32 p.vector.cost) := (put_cell (k := 57) h rfl (by decide)).trans rfl
@[go_sem] theorem Prt.set_vector_cost {w : World} {b o : Nat} {p : Prt} (h : Fit w b o 90) (x : Int) : (put w b o p.enc).setCell ⟨b, o + 57, none⟩ (.int .u32 x) = put w b o ({ p with vector := { p.vector with cost := x } } : Prt).enc := (put_setCell (k := 57) h rfl (by decide) _).trans rfl
@[go_sem ↓] theorem Prt.get_vector_cost (p : Prt) : p.enc.toArray[57]? = some (.int .u32 p.vector.cost) := rfl
@[go_sem] theorem Prt.at_vector_cost (p : Prt) (h : 57 < p.enc.length) : p.enc[57] = .int .u32 p.vector.cost := rfl
@[go_sem ↓] theorem Prt.lget_vector_cost (p : Prt) : p.enc[57]? = some (.int .u32 p.vector.cost) := rfl
@[go_sem] theorem Prt.cell_vector_bridge {w : World} {b o : Nat} {p : Prt} (h : Fit w b o 90) : (put w b o p.enc).cell? ⟨b, o + 58, none⟩ = some (.int .u64 p.vector.bridge) := (put_cell (k := 58) h rfl (by decide)).trans rfl
@[go_sem] theorem Prt.set_vector_bridge {w : World} {b o : Nat} {p : Prt} (h : Fit w b o 90) (x : Int) : (put w b o p.enc).setCell ⟨b, o + 58, none⟩ (.int .u64 x) = put w b o ({ p with vector := { p.vector with bridge := x } } : Prt).enc := (put_setCell (k := 58) h rfl (by decide) _).trans rfl
@[go_sem ↓] theorem Prt.get_vector_bridge (p : Prt) : p.enc.toArray[58]? = some (.int .u64 p.vector.bridge) := rfl
@[go_sem] theorem Prt.at_vector_bridge (p : Prt) (h : 58 < p.enc.length) : p.enc[58] = .int .u64 p.vector.bridge := rfl
@[go_sem ↓] theorem Prt.lget_vector_bridge (p : Prt) : p.enc[58]? = some (.int .u64 p.vector.bridge) := rfl
@[go_sem] theorem Prt.cell_vector_port {w : World} {b o : Nat} {p : Prt} (h : Fit w b o 90) : (put w b o p.enc).cell? ⟨b, o + 59, none⟩ = some (.int .u16 p.vector.port) := (put_cell (k := 59) h rfl (by decide)).trans rfl
@[go_sem] theorem Prt.set_vector_port {w : World} {b o : Nat} {p : Prt} (h : Fit w b o 90) (x : Int) : (put w b o p.enc).setCell ⟨b, o + 59, none⟩ (.int .u16 x) = put w b o ({ p with vector := { p.vector with port := x } } : Prt).enc := (put_setCell (k := 59) h rfl (by decide) _).trans rfl
@[go_sem ↓] theorem Prt.get_vector_port (p : Prt) : p.enc.toArray[59]? = some (.int .u16 p.vector.port) := rfl
@[go_sem] theorem Prt.at_vector_port (p : Prt) (h : 59 < p.enc.length) : p.enc[59] = .int .u16 p.vector.port := rfl
@[go_sem ↓] theorem Prt.lget_vector_port (p : Prt) : p.enc[59]? = some (.int .u16 p.vector.port) := rfl
@[go_sem] theorem Prt.cell_designatedTimes_age {w : World} {b o : Nat} {p : Prt} (h : Fit w b o 90) : (put w b o p.enc).cell? ⟨b, o + 60, none⟩ = some (.int .i64 p.designatedTimes.age) := (put_cell (k := 60) h rfl (by decide)).trans rfl
@[go_sem] theorem Prt.set_designatedTimes_age {w : World} {b o : Nat} {p : Prt} (h : Fit w b o 90) (x : Int) : (put w b o p.enc).setCell ⟨b, o + 60, none⟩ (.int .i64 x) = put w b o ({ p with designatedTimes := { p.designatedTimes with age := x } } : Prt).enc := (put_setCell (k := 60) h rfl (by decide) _).trans rfl
@[go_sem ↓] theorem Prt.get_designatedTimes_age (p : Prt) : p.enc.toArray[60]? = some (.int .i64 p.designatedTimes.age) := rfl
@[go_sem] theorem Prt.at_designatedTimes_age (p : Prt) (h : 60 < p.enc.length) : p.enc[60] = .int .i64 p.designatedTimes.age := rfl
@[go_sem ↓] theorem Prt.lget_designatedTimes_age (p : Prt) : p.enc[60]? = some (.int .i64 p.designatedTimes.age) := rfl
@[go_sem] theorem Prt.cell_designatedTimes_max {w : World} {b o : Nat} {p : Prt} (h : Fit w b o 90) : (put w b o p.enc).cell? ⟨b, o + 61, none⟩ = some (.int .i64 p.designatedTimes.max) := (put_cell (k := 61) h rfl (by decide)).trans rfl
@[go_sem] theorem Prt.set_designatedTimes_max {w : World} {b o : Nat} {p : Prt} (h : Fit w b o 90) (x : Int) : (put w b o p.enc).setCell ⟨b, o + 61, none⟩ (.int .i64 x) = put w b o ({ p with designatedTimes := { p.designatedTimes with max := x } } : Prt).enc := (put_setCell (k := 61) h rfl (by decide) _).trans rfl
@[go_sem ↓] theorem Prt.get_designatedTimes_max (p : Prt) : p.enc.toArray[61]? = some (.int .i64 p.designatedTimes.max) := rfl
@[go_sem] theorem Prt.at_designatedTimes_max (p : Prt) (h : 61 < p.enc.length) : p.enc[61] = .int .i64 p.designatedTimes.max := rfl
@[go_sem ↓] theorem Prt.lget_designatedTimes_max (p : Prt) : p.enc[61]? = some (.int .i64 p.designatedTimes.max) := rfl
@[go_sem] theorem Prt.cell_designatedTimes_hello {w : World} {b o : Nat} {p : Prt} (h : Fit w b o 90) : (put w b o p.enc).cell? ⟨b, o + 62, none⟩ = some (.int .i64 p.designatedTimes.hello) := (put_cell (k := 62) h rfl (by decide)).trans rfl
@[go_sem] theorem Prt.set_designatedTimes_hello {w : World} {b o : Nat} {p : Prt} (h : Fit w b o 90) (x : Int) : (put w b o p.enc).setCell ⟨b, o + 62, none⟩ (.int .i64 x) = put w b o ({ p with designatedTimes := { p.designatedTimes with hello := x } } : Prt).enc := (put_setCell (k := 62) h rfl (by decide) _).trans rfl
@[go_sem ↓] theorem Prt.get_designatedTimes_hello (p : Prt) : p.enc.toArray[62]? = some (.int .i64 p.designatedTimes.hello) := rfl
@[go_sem] theorem Prt.at_designatedTimes_hello (p : Prt) (h : 62 < p.enc.length) : p.enc[62] = .int .i64 p.designatedTimes.hello := rfl
@[go_sem ↓] theorem Prt.lget_designatedTimes_hello (p : Prt) : p.enc[62]? = some (.int .i64 p.designatedTimes.hello) := rfl
@[go_sem] theorem Prt.cell_designatedTimes_delay {w : World} {b o : Nat} {p : Prt} (h : Fit w b o 90) : (put w b o p.enc).cell? ⟨b, o + 63, none⟩ = some (.int .i64 p.designatedTimes.delay) := (put_cell (k := 63) h rfl (by decide)).trans rfl
@[go_sem] theorem Prt.set_designatedTimes_delay {w : World} {b o : Nat} {p : Prt} (h : Fit w b o 90) (x : Int) : (put w b o p.enc).setCell ⟨b, o + 63, none⟩ (.int .i64 x) = put w b o ({ p with designatedTimes := { p.designatedTimes with delay := x } } : Prt).enc := (put_setCell (k := 63) h rfl (by decide) _).trans rfl
@[go_sem ↓] theorem Prt.get_designatedTimes_delay (p : Prt) : p.enc.toArray[63]? = some (.int .i64 p.designatedTimes.delay) := rfl
@[go_sem] theorem Prt.at_designatedTimes_delay (p : Prt) (h : 63 < p.enc.length) : p.enc[63] = .int .i64 p.designatedTimes.delay := rfl
@[go_sem ↓] theorem Prt.lget_designatedTimes_delay (p : Prt) : p.enc[63]? = some (.int .i64 p.designatedTimes.delay) := rfl
@[go_sem] theorem Prt.cell_msgTimes_age {w : World} {b o : Nat} {p : Prt} (h : Fit w b o 90) : (put w b o p.enc).cell? ⟨b, o + 64, none⟩ = some (.int .i64 p.msgTimes.age) := (put_cell (k := 64) h rfl (by decide)).trans rfl
@[go_sem] theorem Prt.set_msgTimes_age {w : World} {b o : Nat} {p : Prt} (h : Fit w b o 90) (x : Int) : (put w b o p.enc).setCell ⟨b, o + 64, none⟩ (.int .i64 x) = put w b o ({ p with msgTimes := { p.msgTimes with age := x } } : Prt).enc := (put_setCell (k := 64) h rfl (by decide) _).trans rfl
@[go_sem ↓] theorem Prt.get_msgTimes_age (p : Prt) : p.enc.toArray[64]? = some (.int .i64 p.msgTimes.age) := rfl
@[go_sem] theorem Prt.at_msgTimes_age (p : Prt) (h : 64 < p.enc.length) : p.enc[64] = .int .i64 p.msgTimes.age := rfl
@[go_sem ↓] theorem Prt.lget_msgTimes_age (p : Prt) : p.enc[64]? = some (.int .i64 p.msgTimes.age) := rfl
@[go_sem] theorem Prt.cell_msgTimes_max {w : World} {b o : Nat} {p : Prt} (h : Fit w b o 90) : (put w b o p.enc).cell? ⟨b, o + 65, none⟩ = some (.int .i64 p.msgTimes.max) := (put_cell (k := 65) h rfl (by decide)).trans rfl
@[go_sem] theorem Prt.set_msgTimes_max {w : World} {b o : Nat} {p : Prt} (h : Fit w b o 90) (x : Int) : (put w b o p.enc).setCell ⟨b, o + 65, none⟩ (.int .i64 x) = put w b o ({ p with msgTimes := { p.msgTimes with max := x } } : Prt).enc := (put_setCell (k := 65) h rfl (by decide) _).trans rfl
@[go_sem ↓] theorem Prt.get_msgTimes_max (p : Prt) : p.enc.toArray[65]? = some (.int .i64 p.msgTimes.max) := rfl
@[go_sem] theorem Prt.at_msgTimes_max (p : Prt) (h : 65 < p.enc.length) : p.enc[65] = .int .i64 p.msgTimes.max := rfl
@[go_sem ↓] theorem Prt.lget_msgTimes_max (p : Prt) : p.enc[65]? = some (.int .i64 p.msgTimes.max) := rfl
@[go_sem] theorem Prt.cell_msgTimes_hello {w : World} {b o : Nat} {p : Prt} (h : Fit w b o 90) : (put w b o p.enc).cell? ⟨b, o + 66, none⟩ = some (.int .i64 p.msgTimes.hello) := (put_cell (k := 66) h rfl (by decide)).trans rfl
@[go_sem] theorem Prt.set_msgTimes_hello {w : World} {b o : Nat} {p : Prt} (h : Fit w b o 90) (x : Int) : (put w b o p.enc).setCell ⟨b, o + 66, none⟩ (.int .i64 x) = put w b o ({ p with msgTimes := { p.msgTimes with hello := x } } : Prt).enc := (put_setCell (k := 66) h rfl (by decide) _).trans rfl
@[go_sem ↓] theorem Prt.get_msgTimes_hello (p : Prt) : p.enc.toArray[66]? = some (.int .i64 p.msgTimes.hello) := rfl
@[go_sem] theorem Prt.at_msgTimes_hello (p : Prt) (h : 66 < p.enc.length) : p.enc[66] = .int .i64 p.msgTimes.hello := rfl
@[go_sem ↓] theorem Prt.lget_msgTimes_hello (p : Prt) : p.enc[66]? = some (.int .i64 p.msgTimes.hello) := rfl
@[go_sem] theorem Prt.cell_msgTimes_delay {w : World} {b o : Nat} {p : Prt} (h : Fit w b o 90) : (put w b o p.enc).cell? ⟨b, o + 67, none⟩ = some (.int .i64 p.msgTimes.delay) := (put_cell (k := 67) h rfl (by decide)).trans rfl
@[go_sem] theorem Prt.set_msgTimes_delay {w : World} {b o : Nat} {p : Prt} (h : Fit w b o 90) (x : Int) : (put w b o p.enc).setCell ⟨b, o + 67, none⟩ (.int .i64 x) = put w b o ({ p with msgTimes := { p.msgTimes with delay := x } } : Prt).enc := (put_setCell (k := 67) h rfl (by decide) _).trans rfl
@[go_sem ↓] theorem Prt.get_msgTimes_delay (p : Prt) : p.enc.toArray[67]? = some (.int .i64 p.msgTimes.delay) := rfl
@[go_sem] theorem Prt.at_msgTimes_delay (p : Prt) (h : 67 < p.enc.length) : p.enc[67] = .int .i64 p.msgTimes.delay := rfl
@[go_sem ↓] theorem Prt.lget_msgTimes_delay (p : Prt) : p.enc[67]? = some (.int .i64 p.msgTimes.delay) := rfl
@[go_sem] theorem Prt.cell_portTimes_age {w : World} {b o : Nat} {p : Prt} (h : Fit w b o 90) : (put w b o p.enc).cell? ⟨b, o + 68, none⟩ = some (.int .i64 p.portTimes.age) := (put_cell (k := 68) h rfl (by decide)).trans rfl
@[go_sem] theorem Prt.set_portTimes_age {w : World} {b o : Nat} {p : Prt} (h : Fit w b o 90) (x : Int) : (put w b o p.enc).setCell ⟨b, o + 68, none⟩ (.int .i64 x) = put w b o ({ p with portTimes := { p.portTimes with age := x } } : Prt).enc := (put_setCell (k := 68) h rfl (by decide) _).trans rfl
@[go_sem ↓] theorem Prt.get_portTimes_age (p : Prt) : p.enc.toArray[68]? = some (.int .i64 p.portTimes.age) := rfl
@[go_sem] theorem Prt.at_portTimes_age (p : Prt) (h : 68 < p.enc.length) : p.enc[68] = .int .i64 p.portTimes.age := rfl
@[go_sem ↓] theorem Prt.lget_portTimes_age (p : Prt) : p.enc[68]? = some (.int .i64 p.portTimes.age) := rfl
@[go_sem] theorem Prt.cell_portTimes_max {w : World} {b o : Nat} {p : Prt} (h : Fit w b o 90) : (put w b o p.enc).cell? ⟨b, o + 69, none⟩ = some (.int .i64 p.portTimes.max) := (put_cell (k := 69) h rfl (by decide)).trans rfl
@[go_sem] theorem Prt.set_portTimes_max {w : World} {b o : Nat} {p : Prt} (h : Fit w b o 90) (x : Int) : (put w b o p.enc).setCell ⟨b, o + 69, none⟩ (.int .i64 x) = put w b o ({ p with portTimes := { p.portTimes with max := x } } : Prt).enc := (put_setCell (k := 69) h rfl (by decide) _).trans rfl
@[go_sem ↓] theorem Prt.get_portTimes_max (p : Prt) : p.enc.toArray[69]? = some (.int .i64 p.portTimes.max) := rfl
@[go_sem] theorem Prt.at_portTimes_max (p : Prt) (h : 69 < p.enc.length) : p.enc[69] = .int .i64 p.portTimes.max := rfl
@[go_sem ↓] theorem Prt.lget_portTimes_max (p : Prt) : p.enc[69]? = some (.int .i64 p.portTimes.max) := rfl
@[go_sem] theorem Prt.cell_portTimes_hello {w : World} {b o : Nat} {p : Prt} (h : Fit w b o 90) : (put w b o p.enc).cell? ⟨b, o + 70, none⟩ = some (.int .i64 p.portTimes.hello) := (put_cell (k := 70) h rfl (by decide)).trans rfl
@[go_sem] theorem Prt.set_portTimes_hello {w : World} {b o : Nat} {p : Prt} (h : Fit w b o 90) (x : Int) : (put w b o p.enc).setCell ⟨b, o + 70, none⟩ (.int .i64 x) = put w b o ({ p with portTimes := { p.portTimes with hello := x } } : Prt).enc := (put_setCell (k := 70) h rfl (by decide) _).trans rfl
@[go_sem ↓] theorem Prt.get_portTimes_hello (p : Prt) : p.enc.toArray[70]? = some (.int .i64 p.portTimes.hello) := rfl
@[go_sem] theorem Prt.at_portTimes_hello (p : Prt) (h : 70 < p.enc.length) : p.enc[70] = .int .i64 p.portTimes.hello := rfl
@[go_sem ↓] theorem Prt.lget_portTimes_hello (p : Prt) : p.enc[70]? = some (.int .i64 p.portTimes.hello) := rfl
@[go_sem] theorem Prt.cell_portTimes_delay {w : World} {b o : Nat} {p : Prt} (h : Fit w b o 90) : (put w b o p.enc).cell? ⟨b, o + 71, none⟩ = some (.int .i64 p.portTimes.delay) := (put_cell (k := 71) h rfl (by decide)).trans rfl
@[go_sem] theorem Prt.set_portTimes_delay {w : World} {b o : Nat} {p : Prt} (h : Fit w b o 90) (x : Int) : (put w b o p.enc).setCell ⟨b, o + 71, none⟩ (.int .i64 x) = put w b o ({ p with portTimes := { p.portTimes with delay := x } } : Prt).enc := (put_setCell (k := 71) h rfl (by decide) _).trans rfl
@[go_sem ↓] theorem Prt.get_portTimes_delay (p : Prt) : p.enc.toArray[71]? = some (.int .i64 p.portTimes.delay) := rfl
@[go_sem] theorem Prt.at_portTimes_delay (p : Prt) (h : 71 < p.enc.length) : p.enc[71] = .int .i64 p.portTimes.delay := rfl
@[go_sem ↓] theorem Prt.lget_portTimes_delay (p : Prt) : p.enc[71]? = some (.int .i64 p.portTimes.delay) := rfl
@[go_sem] theorem Prt.cell_msg_kind {w : World} {b o : Nat} {p : Prt} (h : Fit w b o 90) : (put w b o p.enc).cell? ⟨b, o + 72, none⟩ = some (.int .i64 p.msg.kind) := (put_cell (k := 72) h rfl (by decide)).trans rfl
@[go_sem] theorem Prt.set_msg_kind {w : World} {b o : Nat} {p : Prt} (h : Fit w b o 90) (x : Int) : (put w b o p.enc).setCell ⟨b, o + 72, none⟩ (.int .i64 x) = put w b o ({ p with msg := { p.msg with kind := x } } : Prt).enc := (put_setCell (k := 72) h rfl (by decide) _).trans rfl
@[go_sem ↓] theorem Prt.get_msg_kind (p : Prt) : p.enc.toArray[72]? = some (.int .i64 p.msg.kind) := rfl
@[go_sem] theorem Prt.at_msg_kind (p : Prt) (h : 72 < p.enc.length) : p.enc[72] = .int .i64 p.msg.kind := rfl
@[go_sem ↓] theorem Prt.lget_msg_kind (p : Prt) : p.enc[72]? = some (.int .i64 p.msg.kind) := rfl
@[go_sem] theorem Prt.cell_msg_flags {w : World} {b o : Nat} {p : Prt} (h : Fit w b o 90) : (put w b o p.enc).cell? ⟨b, o + 73, none⟩ = some (.int .u8 p.msg.flags) := (put_cell (k := 73) h rfl (by decide)).trans rfl
@[go_sem] theorem Prt.set_msg_flags {w : World} {b o : Nat} {p : Prt} (h : Fit w b o 90) (x : Int) : (put w b o p.enc).setCell ⟨b, o + 73, none⟩ (.int .u8 x) = put w b o ({ p with msg := { p.msg with flags := x } } : Prt).enc := (put_setCell (k := 73) h rfl (by decide) _).trans rfl
@[go_sem ↓] theorem Prt.get_msg_flags (p : Prt) : p.enc.toArray[73]? = some (.int .u8 p.msg.flags) := rfl
@[go_sem] theorem Prt.at_msg_flags (p : Prt) (h : 73 < p.enc.length) : p.enc[73] = .int .u8 p.msg.flags := rfl
@[go_sem ↓] theorem Prt.lget_msg_flags (p : Prt) : p.enc[73]? = some (.int .u8 p.msg.flags) := rfl
@[go_sem] theorem Prt.cell_msg_vector_root {w : World} {b o : Nat} {p : Prt} (h : Fit w b o 90) : (put w b o p.enc).cell? ⟨b, o + 74, none⟩ = some (.int .u64 p.msg.vector.root) := (put_cell (k := 74) h rfl (by decide)).trans rfl
@[go_sem] theorem Prt.set_msg_vector_root {w : World} {b o : Nat} {p : Prt} (h : Fit w b o 90) (x : Int) : (put w b o p.enc).setCell ⟨b, o + 74, none⟩ (.int .u64 x) = put w b o ({ p with msg := { p.msg with vector := { p.msg.vector with root := x } } } : Prt).enc := (put_setCell (k := 74) h rfl (by decide) _).trans rfl
@[go_sem ↓] theorem Prt.get_msg_vector_root (p : Prt) : p.enc.toArray[74]? = some (.int .u64 p.msg.vector.root) := rfl
@[go_sem] theorem Prt.at_msg_vector_root (p : Prt) (h : 74 < p.enc.length) : p.enc[74] = .int .u64 p.msg.vector.root := rfl
@[go_sem ↓] theorem Prt.lget_msg_vector_root (p : Prt) : p.enc[74]? = some (.int .u64 p.msg.vector.root) := rfl
@[go_sem] theorem Prt.cell_msg_vector_cost {w : World} {b o : Nat} {p : Prt} (h : Fit w b o 90) : (put w b o p.enc).cell? ⟨b, o + 75, none⟩ = some (.int .u32 p.msg.vector.cost) := (put_cell (k := 75) h rfl (by decide)).trans rfl
@[go_sem] theorem Prt.set_msg_vector_cost {w : World} {b o : Nat} {p : Prt} (h : Fit w b o 90) (x : Int) : (put w b o p.enc).setCell ⟨b, o + 75, none⟩ (.int .u32 x) = put w b o ({ p with msg := { p.msg with vector := { p.msg.vector with cost := x } } } : Prt).enc := (put_setCell (k := 75) h rfl (by decide) _).trans rfl
@[go_sem ↓] theorem Prt.get_msg_vector_cost (p : Prt) : p.enc.toArray[75]? = some (.int .u32 p.msg.vector.cost) := rfl
@[go_sem] theorem Prt.at_msg_vector_cost (p : Prt) (h : 75 < p.enc.length) : p.enc[75] = .int .u32 p.msg.vector.cost := rfl
@[go_sem ↓] theorem Prt.lget_msg_vector_cost (p : Prt) : p.enc[75]? = some (.int .u32 p.msg.vector.cost) := rfl
@[go_sem] theorem Prt.cell_msg_vector_bridge {w : World} {b o : Nat} {p : Prt} (h : Fit w b o 90) : (put w b o p.enc).cell? ⟨b, o + 76, none⟩ = some (.int .u64 p.msg.vector.bridge) := (put_cell (k := 76) h rfl (by decide)).trans rfl
@[go_sem] theorem Prt.set_msg_vector_bridge {w : World} {b o : Nat} {p : Prt} (h : Fit w b o 90) (x : Int) : (put w b o p.enc).setCell ⟨b, o + 76, none⟩ (.int .u64 x) = put w b o ({ p with msg := { p.msg with vector := { p.msg.vector with bridge := x } } } : Prt).enc := (put_setCell (k := 76) h rfl (by decide) _).trans rfl
@[go_sem ↓] theorem Prt.get_msg_vector_bridge (p : Prt) : p.enc.toArray[76]? = some (.int .u64 p.msg.vector.bridge) := rfl
@[go_sem] theorem Prt.at_msg_vector_bridge (p : Prt) (h : 76 < p.enc.length) : p.enc[76] = .int .u64 p.msg.vector.bridge := rfl
@[go_sem ↓] theorem Prt.lget_msg_vector_bridge (p : Prt) : p.enc[76]? = some (.int .u64 p.msg.vector.bridge) := rfl
@[go_sem] theorem Prt.cell_msg_vector_port {w : World} {b o : Nat} {p : Prt} (h : Fit w b o 90) : (put w b o p.enc).cell? ⟨b, o + 77, none⟩ = some (.int .u16 p.msg.vector.port) := (put_cell (k := 77) h rfl (by decide)).trans rfl
@[go_sem] theorem Prt.set_msg_vector_port {w : World} {b o : Nat} {p : Prt} (h : Fit w b o 90) (x : Int) : (put w b o p.enc).setCell ⟨b, o + 77, none⟩ (.int .u16 x) = put w b o ({ p with msg := { p.msg with vector := { p.msg.vector with port := x } } } : Prt).enc := (put_setCell (k := 77) h rfl (by decide) _).trans rfl
@[go_sem ↓] theorem Prt.get_msg_vector_port (p : Prt) : p.enc.toArray[77]? = some (.int .u16 p.msg.vector.port) := rfl
@[go_sem] theorem Prt.at_msg_vector_port (p : Prt) (h : 77 < p.enc.length) : p.enc[77] = .int .u16 p.msg.vector.port := rfl
@[go_sem ↓] theorem Prt.lget_msg_vector_port (p : Prt) : p.enc[77]? = some (.int .u16 p.msg.vector.port) := rfl
@[go_sem] theorem Prt.cell_msg_age {w : World} {b o : Nat} {p : Prt} (h : Fit w b o 90) : (put w b o p.enc).cell? ⟨b, o + 78, none⟩ = some (.int .u16 p.msg.age) := (put_cell (k := 78) h rfl (by decide)).trans rfl
@[go_sem] theorem Prt.set_msg_age {w : World} {b o : Nat} {p : Prt} (h : Fit w b o 90) (x : Int) : (put w b o p.enc).setCell ⟨b, o + 78, none⟩ (.int .u16 x) = put w b o ({ p with msg := { p.msg with age := x } } : Prt).enc := (put_setCell (k := 78) h rfl (by decide) _).trans rfl
@[go_sem ↓] theorem Prt.get_msg_age (p : Prt) : p.enc.toArray[78]? = some (.int .u16 p.msg.age) := rfl
@[go_sem] theorem Prt.at_msg_age (p : Prt) (h : 78 < p.enc.length) : p.enc[78] = .int .u16 p.msg.age := rfl
@[go_sem ↓] theorem Prt.lget_msg_age (p : Prt) : p.enc[78]? = some (.int .u16 p.msg.age) := rfl
@[go_sem] theorem Prt.cell_msg_max {w : World} {b o : Nat} {p : Prt} (h : Fit w b o 90) : (put w b o p.enc).cell? ⟨b, o + 79, none⟩ = some (.int .u16 p.msg.max) := (put_cell (k := 79) h rfl (by decide)).trans rfl
@[go_sem] theorem Prt.set_msg_max {w : World} {b o : Nat} {p : Prt} (h : Fit w b o 90) (x : Int) : (put w b o p.enc).setCell ⟨b, o + 79, none⟩ (.int .u16 x) = put w b o ({ p with msg := { p.msg with max := x } } : Prt).enc := (put_setCell (k := 79) h rfl (by decide) _).trans rfl
@[go_sem ↓] theorem Prt.get_msg_max (p : Prt) : p.enc.toArray[79]? = some (.int .u16 p.msg.max) := rfl
@[go_sem] theorem Prt.at_msg_max (p : Prt) (h : 79 < p.enc.length) : p.enc[79] = .int .u16 p.msg.max := rfl
@[go_sem ↓] theorem Prt.lget_msg_max (p : Prt) : p.enc[79]? = some (.int .u16 p.msg.max) := rfl
@[go_sem] theorem Prt.cell_msg_hello {w : World} {b o : Nat} {p : Prt} (h : Fit w b o 90) : (put w b o p.enc).cell? ⟨b, o + 80, none⟩ = some (.int .u16 p.msg.hello) := (put_cell (k := 80) h rfl (by decide)).trans rfl
@[go_sem] theorem Prt.set_msg_hello {w : World} {b o : Nat} {p : Prt} (h : Fit w b o 90) (x : Int) : (put w b o p.enc).setCell ⟨b, o + 80, none⟩ (.int .u16 x) = put w b o ({ p with msg := { p.msg with hello := x } } : Prt).enc := (put_setCell (k := 80) h rfl (by decide) _).trans rfl
@[go_sem ↓] theorem Prt.get_msg_hello (p : Prt) : p.enc.toArray[80]? = some (.int .u16 p.msg.hello) := rfl
@[go_sem] theorem Prt.at_msg_hello (p : Prt) (h : 80 < p.enc.length) : p.enc[80] = .int .u16 p.msg.hello := rfl
@[go_sem ↓] theorem Prt.lget_msg_hello (p : Prt) : p.enc[80]? = some (.int .u16 p.msg.hello) := rfl
@[go_sem] theorem Prt.cell_msg_delay {w : World} {b o : Nat} {p : Prt} (h : Fit w b o 90) : (put w b o p.enc).cell? ⟨b, o + 81, none⟩ = some (.int .u16 p.msg.delay) := (put_cell (k := 81) h rfl (by decide)).trans rfl
@[go_sem] theorem Prt.set_msg_delay {w : World} {b o : Nat} {p : Prt} (h : Fit w b o 90) (x : Int) : (put w b o p.enc).setCell ⟨b, o + 81, none⟩ (.int .u16 x) = put w b o ({ p with msg := { p.msg with delay := x } } : Prt).enc := (put_setCell (k := 81) h rfl (by decide) _).trans rfl
@[go_sem ↓] theorem Prt.get_msg_delay (p : Prt) : p.enc.toArray[81]? = some (.int .u16 p.msg.delay) := rfl
@[go_sem] theorem Prt.at_msg_delay (p : Prt) (h : 81 < p.enc.length) : p.enc[81] = .int .u16 p.msg.delay := rfl
@[go_sem ↓] theorem Prt.lget_msg_delay (p : Prt) : p.enc[81]? = some (.int .u16 p.msg.delay) := rfl
@[go_sem] theorem Prt.cell_prx {w : World} {b o : Nat} {p : Prt} (h : Fit w b o 90) : (put w b o p.enc).cell? ⟨b, o + 82, none⟩ = some (.int .i64 p.prx) := (put_cell (k := 82) h rfl (by decide)).trans rfl
@[go_sem] theorem Prt.set_prx {w : World} {b o : Nat} {p : Prt} (h : Fit w b o 90) (x : Int) : (put w b o p.enc).setCell ⟨b, o + 82, none⟩ (.int .i64 x) = put w b o ({ p with prx := x } : Prt).enc := (put_setCell (k := 82) h rfl (by decide) _).trans rfl
@[go_sem ↓] theorem Prt.get_prx (p : Prt) : p.enc.toArray[82]? = some (.int .i64 p.prx) := rfl
@[go_sem] theorem Prt.at_prx (p : Prt) (h : 82 < p.enc.length) : p.enc[82] = .int .i64 p.prx := rfl
@[go_sem ↓] theorem Prt.lget_prx (p : Prt) : p.enc[82]? = some (.int .i64 p.prx) := rfl
@[go_sem] theorem Prt.cell_ppm {w : World} {b o : Nat} {p : Prt} (h : Fit w b o 90) : (put w b o p.enc).cell? ⟨b, o + 83, none⟩ = some (.int .i64 p.ppm) := (put_cell (k := 83) h rfl (by decide)).trans rfl
@[go_sem] theorem Prt.set_ppm {w : World} {b o : Nat} {p : Prt} (h : Fit w b o 90) (x : Int) : (put w b o p.enc).setCell ⟨b, o + 83, none⟩ (.int .i64 x) = put w b o ({ p with ppm := x } : Prt).enc := (put_setCell (k := 83) h rfl (by decide) _).trans rfl
@[go_sem ↓] theorem Prt.get_ppm (p : Prt) : p.enc.toArray[83]? = some (.int .i64 p.ppm) := rfl
@[go_sem] theorem Prt.at_ppm (p : Prt) (h : 83 < p.enc.length) : p.enc[83] = .int .i64 p.ppm := rfl
@[go_sem ↓] theorem Prt.lget_ppm (p : Prt) : p.enc[83]? = some (.int .i64 p.ppm) := rfl
@[go_sem] theorem Prt.cell_bdm {w : World} {b o : Nat} {p : Prt} (h : Fit w b o 90) : (put w b o p.enc).cell? ⟨b, o + 84, none⟩ = some (.int .i64 p.bdm) := (put_cell (k := 84) h rfl (by decide)).trans rfl
@[go_sem] theorem Prt.set_bdm {w : World} {b o : Nat} {p : Prt} (h : Fit w b o 90) (x : Int) : (put w b o p.enc).setCell ⟨b, o + 84, none⟩ (.int .i64 x) = put w b o ({ p with bdm := x } : Prt).enc := (put_setCell (k := 84) h rfl (by decide) _).trans rfl
@[go_sem ↓] theorem Prt.get_bdm (p : Prt) : p.enc.toArray[84]? = some (.int .i64 p.bdm) := rfl
@[go_sem] theorem Prt.at_bdm (p : Prt) (h : 84 < p.enc.length) : p.enc[84] = .int .i64 p.bdm := rfl
@[go_sem ↓] theorem Prt.lget_bdm (p : Prt) : p.enc[84]? = some (.int .i64 p.bdm) := rfl
@[go_sem] theorem Prt.cell_ptx {w : World} {b o : Nat} {p : Prt} (h : Fit w b o 90) : (put w b o p.enc).cell? ⟨b, o + 85, none⟩ = some (.int .i64 p.ptx) := (put_cell (k := 85) h rfl (by decide)).trans rfl
@[go_sem] theorem Prt.set_ptx {w : World} {b o : Nat} {p : Prt} (h : Fit w b o 90) (x : Int) : (put w b o p.enc).setCell ⟨b, o + 85, none⟩ (.int .i64 x) = put w b o ({ p with ptx := x } : Prt).enc := (put_setCell (k := 85) h rfl (by decide) _).trans rfl
@[go_sem ↓] theorem Prt.get_ptx (p : Prt) : p.enc.toArray[85]? = some (.int .i64 p.ptx) := rfl
@[go_sem] theorem Prt.at_ptx (p : Prt) (h : 85 < p.enc.length) : p.enc[85] = .int .i64 p.ptx := rfl
@[go_sem ↓] theorem Prt.lget_ptx (p : Prt) : p.enc[85]? = some (.int .i64 p.ptx) := rfl
@[go_sem] theorem Prt.cell_pim {w : World} {b o : Nat} {p : Prt} (h : Fit w b o 90) : (put w b o p.enc).cell? ⟨b, o + 86, none⟩ = some (.int .i64 p.pim) := (put_cell (k := 86) h rfl (by decide)).trans rfl
@[go_sem] theorem Prt.set_pim {w : World} {b o : Nat} {p : Prt} (h : Fit w b o 90) (x : Int) : (put w b o p.enc).setCell ⟨b, o + 86, none⟩ (.int .i64 x) = put w b o ({ p with pim := x } : Prt).enc := (put_setCell (k := 86) h rfl (by decide) _).trans rfl
@[go_sem ↓] theorem Prt.get_pim (p : Prt) : p.enc.toArray[86]? = some (.int .i64 p.pim) := rfl
@[go_sem] theorem Prt.at_pim (p : Prt) (h : 86 < p.enc.length) : p.enc[86] = .int .i64 p.pim := rfl
@[go_sem ↓] theorem Prt.lget_pim (p : Prt) : p.enc[86]? = some (.int .i64 p.pim) := rfl
@[go_sem] theorem Prt.cell_prt {w : World} {b o : Nat} {p : Prt} (h : Fit w b o 90) : (put w b o p.enc).cell? ⟨b, o + 87, none⟩ = some (.int .i64 p.prt) := (put_cell (k := 87) h rfl (by decide)).trans rfl
@[go_sem] theorem Prt.set_prt {w : World} {b o : Nat} {p : Prt} (h : Fit w b o 90) (x : Int) : (put w b o p.enc).setCell ⟨b, o + 87, none⟩ (.int .i64 x) = put w b o ({ p with prt := x } : Prt).enc := (put_setCell (k := 87) h rfl (by decide) _).trans rfl
@[go_sem ↓] theorem Prt.get_prt (p : Prt) : p.enc.toArray[87]? = some (.int .i64 p.prt) := rfl
@[go_sem] theorem Prt.at_prt (p : Prt) (h : 87 < p.enc.length) : p.enc[87] = .int .i64 p.prt := rfl
@[go_sem ↓] theorem Prt.lget_prt (p : Prt) : p.enc[87]? = some (.int .i64 p.prt) := rfl
@[go_sem] theorem Prt.cell_pst {w : World} {b o : Nat} {p : Prt} (h : Fit w b o 90) : (put w b o p.enc).cell? ⟨b, o + 88, none⟩ = some (.int .i64 p.pst) := (put_cell (k := 88) h rfl (by decide)).trans rfl
@[go_sem] theorem Prt.set_pst {w : World} {b o : Nat} {p : Prt} (h : Fit w b o 90) (x : Int) : (put w b o p.enc).setCell ⟨b, o + 88, none⟩ (.int .i64 x) = put w b o ({ p with pst := x } : Prt).enc := (put_setCell (k := 88) h rfl (by decide) _).trans rfl
@[go_sem ↓] theorem Prt.get_pst (p : Prt) : p.enc.toArray[88]? = some (.int .i64 p.pst) := rfl
@[go_sem] theorem Prt.at_pst (p : Prt) (h : 88 < p.enc.length) : p.enc[88] = .int .i64 p.pst := rfl
@[go_sem ↓] theorem Prt.lget_pst (p : Prt) : p.enc[88]? = some (.int .i64 p.pst) := rfl
@[go_sem] theorem Prt.cell_tcm {w : World} {b o : Nat} {p : Prt} (h : Fit w b o 90) : (put w b o p.enc).cell? ⟨b, o + 89, none⟩ = some (.int .i64 p.tcm) := (put_cell (k := 89) h rfl (by decide)).trans rfl
@[go_sem] theorem Prt.set_tcm {w : World} {b o : Nat} {p : Prt} (h : Fit w b o 90) (x : Int) : (put w b o p.enc).setCell ⟨b, o + 89, none⟩ (.int .i64 x) = put w b o ({ p with tcm := x } : Prt).enc := (put_setCell (k := 89) h rfl (by decide) _).trans rfl
@[go_sem ↓] theorem Prt.get_tcm (p : Prt) : p.enc.toArray[89]? = some (.int .i64 p.tcm) := rfl
@[go_sem] theorem Prt.at_tcm (p : Prt) (h : 89 < p.enc.length) : p.enc[89] = .int .i64 p.tcm := rfl
@[go_sem ↓] theorem Prt.lget_tcm (p : Prt) : p.enc[89]? = some (.int .i64 p.tcm) := rfl
@[go_sem] theorem Prt.frozen {w : World} {b o k : Nat} {p : Prt} (h : Fit w b o 90) : (put w b o p.enc).frozen? ⟨b, k, none⟩ = false := put_frozen h
@[go_sem ↓] theorem Prt.rd {w : World} {b o : Nat} {p : Prt} (h : Fit w b o 90) : rdCells (put w b o p.enc) ⟨b, o, none⟩ 0 90 = some p.enc := rdCells_put h rfl
@[go_sem ↓] theorem Prt.wr {w : World} {b o : Nat} {p q : Prt} (h : Fit w b o 90) : wrCells (put w b o p.enc) ⟨b, o, none⟩ 0 q.enc = some (put w b o q.enc) := wrCells_put h rfl rfl rfl
@[go_sem ↓] theorem Prt.store (P : Program) (a : Addr) (q : Prt) (w : World) : (storeCells a q.enc 0).run P w = (match wrCells w a 0 q.enc with | some w' => .ok () w' | none => storeSlow P a q.enc w) := store_wr P a q.enc w
@[go_sem ↓] theorem Prt.rd_designatedVector {w : World} {b o : Nat} {p : Prt} (h : Fit w b o 90) : rdCells (put w b o p.enc) ⟨b, o + 48, none⟩ 0 4 = some p.designatedVector.enc := rdCells_put_sub (k := 48) h rfl rfl rfl (by decide)
@[go_sem ↓] theorem Prt.wr_designatedVector {w : World} {b o : Nat} {p : Prt} {q : Vec} (h : Fit w b o 90) : wrCells (put w b o p.enc) ⟨b, o + 48, none⟩ 0 q.enc = some (put w b o ({ p with designatedVector := q } : Prt).enc) := wrCells_put_sub (k := 48) (m := 4) h rfl rfl (by decide) rfl rfl
@[go_sem] theorem Prt.dt_designatedVector (p : Prt) : (p.enc.drop 48).take 4 = p.designatedVector.enc := rfl
@[go_sem ↓] theorem Prt.part_designatedVector (p : Prt) : p.enc.toArray.extract 48 52 = p.designatedVector.enc.toArray := rfl
@[go_sem ↓] theorem Prt.rd_msgVector {w : World} {b o : Nat} {p : Prt} (h : Fit w b o 90) : rdCells (put w b o p.enc) ⟨b, o + 52, none⟩ 0 4 = some p.msgVector.enc := rdCells_put_sub (k := 52) h rfl rfl rfl (by decide)
@[go_sem ↓] theorem Prt.wr_msgVector {w : World} {b o : Nat} {p : Prt} {q : Vec} (h : Fit w b o 90) : wrCells (put w b o p.enc) ⟨b, o + 52, none⟩ 0 q.enc = some (put w b o ({ p with msgVector := q } : Prt).enc) := wrCells_put_sub (k := 52) (m := 4) h rfl rfl (by decide) rfl rfl
@[go_sem] theorem Prt.dt_msgVector (p : Prt) : (p.enc.drop 52).take 4 = p.msgVector.enc := rfl
@[go_sem ↓] theorem Prt.part_msgVector (p : Prt) : p.enc.toArray.extract 52 56 = p.msgVector.enc.toArray := rfl
@[go_sem ↓] theorem Prt.rd_vector {w : World} {b o : Nat} {p : Prt} (h : Fit w b o 90) : rdCells (put w b o p.enc) ⟨b, o + 56, none⟩ 0 4 = some p.vector.enc := rdCells_put_sub (k := 56) h rfl rfl rfl (by decide)
@[go_sem ↓] theorem Prt.wr_vector {w : World} {b o : Nat} {p : Prt} {q : Vec} (h : Fit w b o 90) : wrCells (put w b o p.enc) ⟨b, o + 56, none⟩ 0 q.enc = some (put w b o ({ p with vector := q } : Prt).enc) := wrCells_put_sub (k := 56) (m := 4) h rfl rfl (by decide) rfl rfl
@[go_sem] theorem Prt.dt_vector (p : Prt) : (p.enc.drop 56).take 4 = p.vector.enc := rfl
@[go_sem ↓] theorem Prt.part_vector (p : Prt) : p.enc.toArray.extract 56 60 = p.vector.enc.toArray := rfl
@[go_sem ↓] theorem Prt.rd_designatedTimes {w : World} {b o : Nat} {p : Prt} (h : Fit w b o 90) : rdCells (put w b o p.enc) ⟨b, o + 60, none⟩ 0 4 = some p.designatedTimes.enc := rdCells_put_sub (k := 60) h rfl rfl rfl (by decide)
@[go_sem ↓] theorem Prt.wr_designatedTimes {w : World} {b o : Nat} {p : Prt} {q : Tms} (h : Fit w b o 90) : wrCells (put w b o p.enc) ⟨b, o + 60, none⟩ 0 q.enc = some (put w b o ({ p with designatedTimes := q } : Prt).enc) := wrCells_put_sub (k := 60) (m := 4) h rfl rfl (by decide) rfl rfl
@[go_sem] theorem Prt.dt_designatedTimes (p : Prt) : (p.enc.drop 60).take 4 = p.designatedTimes.enc := rfl
@[go_sem ↓] theorem Prt.part_designatedTimes (p : Prt) : p.enc.toArray.extract 60 64 = p.designatedTimes.enc.toArray := rfl
@[go_sem ↓] theorem Prt.rd_msgTimes {w : World} {b o : Nat} {p : Prt} (h : Fit w b o 90) : rdCells (put w b o p.enc) ⟨b, o + 64, none⟩ 0 4 = some p.msgTimes.enc := rdCells_put_sub (k := 64) h rfl rfl rfl (by decide)
@[go_sem ↓] theorem Prt.wr_msgTimes {w : World} {b o : Nat} {p : Prt} {q : Tms} (h : Fit w b o 90) : wrCells (put w b o p.enc) ⟨b, o + 64, none⟩ 0 q.enc = some (put w b o ({ p with msgTimes := q } : Prt).enc) := wrCells_put_sub (k := 64) (m := 4) h rfl rfl (by decide) rfl rfl
@[go_sem] theorem Prt.dt_msgTimes (p : Prt) : (p.enc.drop 64).take 4 = p.msgTimes.enc := rfl
@[go_sem ↓] theorem Prt.part_msgTimes (p : Prt) : p.enc.toArray.extract 64 68 = p.msgTimes.enc.toArray := rfl
@[go_sem ↓] theorem Prt.rd_portTimes {w : World} {b o : Nat} {p : Prt} (h : Fit w b o 90) : rdCells (put w b o p.enc) ⟨b, o + 68, none⟩ 0 4 = some p.portTimes.enc := rdCells_put_sub (k := 68) h rfl rfl rfl (by decide)
@[go_sem ↓] theorem Prt.wr_portTimes {w : World} {b o : Nat} {p : Prt} {q : Tms} (h : Fit w b o 90) : wrCells (put w b o p.enc) ⟨b, o + 68, none⟩ 0 q.enc = some (put w b o ({ p with portTimes := q } : Prt).enc) := wrCells_put_sub (k := 68) (m := 4) h rfl rfl (by decide) rfl rfl
@[go_sem] theorem Prt.dt_portTimes (p : Prt) : (p.enc.drop 68).take 4 = p.portTimes.enc := rfl
@[go_sem ↓] theorem Prt.part_portTimes (p : Prt) : p.enc.toArray.extract 68 72 = p.portTimes.enc.toArray := rfl
@[go_sem ↓] theorem Prt.rd_msg {w : World} {b o : Nat} {p : Prt} (h : Fit w b o 90) : rdCells (put w b o p.enc) ⟨b, o + 72, none⟩ 0 10 = some p.msg.enc := rdCells_put_sub (k := 72) h rfl rfl rfl (by decide)
@[go_sem ↓] theorem Prt.wr_msg {w : World} {b o : Nat} {p : Prt} {q : Bpdu} (h : Fit w b o 90) : wrCells (put w b o p.enc) ⟨b, o + 72, none⟩ 0 q.enc = some (put w b o ({ p with msg := q } : Prt).enc) := wrCells_put_sub (k := 72) (m := 10) h rfl rfl (by decide) rfl rfl
@[go_sem] theorem Prt.dt_msg (p : Prt) : (p.enc.drop 72).take 10 = p.msg.enc := rfl
@[go_sem ↓] theorem Prt.part_msg (p : Prt) : p.enc.toArray.extract 72 82 = p.msg.enc.toArray := rfl
@[go_sem ↓] theorem Prt.rd_msg_vector {w : World} {b o : Nat} {p : Prt} (h : Fit w b o 90) : rdCells (put w b o p.enc) ⟨b, o + 74, none⟩ 0 4 = some p.msg.vector.enc := rdCells_put_sub (k := 74) h rfl rfl rfl (by decide)
@[go_sem ↓] theorem Prt.wr_msg_vector {w : World} {b o : Nat} {p : Prt} {q : Vec} (h : Fit w b o 90) : wrCells (put w b o p.enc) ⟨b, o + 74, none⟩ 0 q.enc = some (put w b o ({ p with msg := { p.msg with vector := q } } : Prt).enc) := wrCells_put_sub (k := 74) (m := 4) h rfl rfl (by decide) rfl rfl
@[go_sem] theorem Prt.dt_msg_vector (p : Prt) : (p.enc.drop 74).take 4 = p.msg.vector.enc := rfl
@[go_sem ↓] theorem Prt.part_msg_vector (p : Prt) : p.enc.toArray.extract 74 78 = p.msg.vector.enc.toArray := rfl
@[ext] structure Brg where
  id : Int
  times : Tms
  txHold : Int
  rstp : Bool
  root : Vec
  rootPort : Int
  rootTimes : Tms
  prs : Int
  ports : Sl
  deriving DecidableEq, Inhabited
def Brg.zero : Brg := { id := 0, times := Tms.zero, txHold := 0, rstp := false, root := Vec.zero, rootPort := 0, rootTimes := Tms.zero, prs := 0, ports := ⟨none, 0, 0⟩ }
/-- The cells of a Brg. -/
def Brg.enc (p : Brg) : List Value := [.int .u64 p.id, .int .i64 p.times.age, .int .i64 p.times.max, .int .i64 p.times.hello, .int .i64 p.times.delay, .int .i64 p.txHold, .bool p.rstp, .int .u64 p.root.root, .int .u32 p.root.cost, .int .u64 p.root.bridge, .int .u16 p.root.port, .int .u16 p.rootPort, .int .i64 p.rootTimes.age, .int .i64 p.rootTimes.max, .int .i64 p.rootTimes.hello, .int .i64 p.rootTimes.delay, .int .i64 p.prs, .slice p.ports.a p.ports.n p.ports.c]
theorem Brg.zero_lit : #[(Value.int .u64 0), (Value.int .i64 0), (Value.int .i64 0), (Value.int .i64 0), (Value.int .i64 0), (Value.int .i64 0), (Value.bool false), (Value.int .u64 0), (Value.int .u32 0), (Value.int .u64 0), (Value.int .u16 0), (Value.int .u16 0), (Value.int .i64 0), (Value.int .i64 0), (Value.int .i64 0), (Value.int .i64 0), (Value.int .i64 0), (Value.slice none 0 0)] = Brg.zero.enc.toArray := rfl
@[simp, go_sem] theorem Brg.length_enc (p : Brg) : p.enc.length = 18 := rfl
@[simp, go_sem] theorem Brg.size_enc (p : Brg) : p.enc.toArray.size = 18 := rfl
@[simp, go_sem] theorem Brg.tk (p : Brg) : p.enc.take 18 = p.enc := rfl
theorem Brg.one (p : Brg) : p.enc.all Value.oneCell' = true := rfl
@[go_sem] theorem Brg.cell_id {w : World} {b o : Nat} {p : Brg} (h : Fit w b o 18) : (put w b o p.enc).cell? ⟨b, o, none⟩ = some (.int .u64 p.id) := (put_cell (k := 0) h rfl (by decide)).trans rfl
@[go_sem] theorem Brg.set_id {w : World} {b o : Nat} {p : Brg} (h : Fit w b o 18) (x : Int) : (put w b o p.enc).setCell ⟨b, o, none⟩ (.int .u64 x) = put w b o ({ p with id := x } : Brg).enc := (put_setCell (k := 0) h rfl (by decide) _).trans rfl
@[go_sem ↓] theorem Brg.get_id (p : Brg) : p.enc.toArray[0]? = some (.int .u64 p.id) := rfl
@[go_sem] theorem Brg.at_id (p : Brg) (h : 0 < p.enc.length) : p.enc[0] = .int .u64 p.id := rfl
@[go_sem ↓] theorem Brg.lget_id (p : Brg) : p.enc[0]? = some (.int .u64 p.id) := rfl
@[go_sem] theorem Brg.cell_times_age {w : World} {b o : Nat} {p : Brg} (h : Fit w b o 18) : (put w b o p.enc).cell? ⟨b, o + 1, none⟩ = some (.int .i64 p.times.age) := (put_cell (k := 1) h rfl (by decide)).trans rfl
@[go_sem] theorem Brg.set_times_age {w : World} {b o : Nat} {p : Brg} (h : Fit w b o 18) (x : Int) : (put w b o p.enc).setCell ⟨b, o + 1, none⟩ (.int .i64 x) = put w b o ({ p with times := { p.times with age := x } } : Brg).enc := (put_setCell (k := 1) h rfl (by decide) _).trans rfl
@[go_sem ↓] theorem Brg.get_times_age (p : Brg) : p.enc.toArray[1]? = some (.int .i64 p.times.age) := rfl
@[go_sem] theorem Brg.at_times_age (p : Brg) (h : 1 < p.enc.length) : p.enc[1] = .int .i64 p.times.age := rfl
@[go_sem ↓] theorem Brg.lget_times_age (p : Brg) : p.enc[1]? = some (.int .i64 p.times.age) := rfl
@[go_sem] theorem Brg.cell_times_max {w : World} {b o : Nat} {p : Brg} (h : Fit w b o 18) : (put w b o p.enc).cell? ⟨b, o + 2, none⟩ = some (.int .i64 p.times.max) := (put_cell (k := 2) h rfl (by decide)).trans rfl
@[go_sem] theorem Brg.set_times_max {w : World} {b o : Nat} {p : Brg} (h : Fit w b o 18) (x : Int) : (put w b o p.enc).setCell ⟨b, o + 2, none⟩ (.int .i64 x) = put w b o ({ p with times := { p.times with max := x } } : Brg).enc := (put_setCell (k := 2) h rfl (by decide) _).trans rfl
@[go_sem ↓] theorem Brg.get_times_max (p : Brg) : p.enc.toArray[2]? = some (.int .i64 p.times.max) := rfl
@[go_sem] theorem Brg.at_times_max (p : Brg) (h : 2 < p.enc.length) : p.enc[2] = .int .i64 p.times.max := rfl
@[go_sem ↓] theorem Brg.lget_times_max (p : Brg) : p.enc[2]? = some (.int .i64 p.times.max) := rfl
@[go_sem] theorem Brg.cell_times_hello {w : World} {b o : Nat} {p : Brg} (h : Fit w b o 18) : (put w b o p.enc).cell? ⟨b, o + 3, none⟩ = some (.int .i64 p.times.hello) := (put_cell (k := 3) h rfl (by decide)).trans rfl
@[go_sem] theorem Brg.set_times_hello {w : World} {b o : Nat} {p : Brg} (h : Fit w b o 18) (x : Int) : (put w b o p.enc).setCell ⟨b, o + 3, none⟩ (.int .i64 x) = put w b o ({ p with times := { p.times with hello := x } } : Brg).enc := (put_setCell (k := 3) h rfl (by decide) _).trans rfl
@[go_sem ↓] theorem Brg.get_times_hello (p : Brg) : p.enc.toArray[3]? = some (.int .i64 p.times.hello) := rfl
@[go_sem] theorem Brg.at_times_hello (p : Brg) (h : 3 < p.enc.length) : p.enc[3] = .int .i64 p.times.hello := rfl
@[go_sem ↓] theorem Brg.lget_times_hello (p : Brg) : p.enc[3]? = some (.int .i64 p.times.hello) := rfl
@[go_sem] theorem Brg.cell_times_delay {w : World} {b o : Nat} {p : Brg} (h : Fit w b o 18) : (put w b o p.enc).cell? ⟨b, o + 4, none⟩ = some (.int .i64 p.times.delay) := (put_cell (k := 4) h rfl (by decide)).trans rfl
@[go_sem] theorem Brg.set_times_delay {w : World} {b o : Nat} {p : Brg} (h : Fit w b o 18) (x : Int) : (put w b o p.enc).setCell ⟨b, o + 4, none⟩ (.int .i64 x) = put w b o ({ p with times := { p.times with delay := x } } : Brg).enc := (put_setCell (k := 4) h rfl (by decide) _).trans rfl
@[go_sem ↓] theorem Brg.get_times_delay (p : Brg) : p.enc.toArray[4]? = some (.int .i64 p.times.delay) := rfl
@[go_sem] theorem Brg.at_times_delay (p : Brg) (h : 4 < p.enc.length) : p.enc[4] = .int .i64 p.times.delay := rfl
@[go_sem ↓] theorem Brg.lget_times_delay (p : Brg) : p.enc[4]? = some (.int .i64 p.times.delay) := rfl
@[go_sem] theorem Brg.cell_txHold {w : World} {b o : Nat} {p : Brg} (h : Fit w b o 18) : (put w b o p.enc).cell? ⟨b, o + 5, none⟩ = some (.int .i64 p.txHold) := (put_cell (k := 5) h rfl (by decide)).trans rfl
@[go_sem] theorem Brg.set_txHold {w : World} {b o : Nat} {p : Brg} (h : Fit w b o 18) (x : Int) : (put w b o p.enc).setCell ⟨b, o + 5, none⟩ (.int .i64 x) = put w b o ({ p with txHold := x } : Brg).enc := (put_setCell (k := 5) h rfl (by decide) _).trans rfl
@[go_sem ↓] theorem Brg.get_txHold (p : Brg) : p.enc.toArray[5]? = some (.int .i64 p.txHold) := rfl
@[go_sem] theorem Brg.at_txHold (p : Brg) (h : 5 < p.enc.length) : p.enc[5] = .int .i64 p.txHold := rfl
@[go_sem ↓] theorem Brg.lget_txHold (p : Brg) : p.enc[5]? = some (.int .i64 p.txHold) := rfl
@[go_sem] theorem Brg.cell_rstp {w : World} {b o : Nat} {p : Brg} (h : Fit w b o 18) : (put w b o p.enc).cell? ⟨b, o + 6, none⟩ = some (.bool p.rstp) := (put_cell (k := 6) h rfl (by decide)).trans rfl
@[go_sem] theorem Brg.set_rstp {w : World} {b o : Nat} {p : Brg} (h : Fit w b o 18) (x : Bool) : (put w b o p.enc).setCell ⟨b, o + 6, none⟩ (.bool x) = put w b o ({ p with rstp := x } : Brg).enc := (put_setCell (k := 6) h rfl (by decide) _).trans rfl
@[go_sem ↓] theorem Brg.get_rstp (p : Brg) : p.enc.toArray[6]? = some (.bool p.rstp) := rfl
@[go_sem] theorem Brg.at_rstp (p : Brg) (h : 6 < p.enc.length) : p.enc[6] = .bool p.rstp := rfl
@[go_sem ↓] theorem Brg.lget_rstp (p : Brg) : p.enc[6]? = some (.bool p.rstp) := rfl
@[go_sem] theorem Brg.cell_root_root {w : World} {b o : Nat} {p : Brg} (h : Fit w b o 18) : (put w b o p.enc).cell? ⟨b, o + 7, none⟩ = some (.int .u64 p.root.root) := (put_cell (k := 7) h rfl (by decide)).trans rfl
@[go_sem] theorem Brg.set_root_root {w : World} {b o : Nat} {p : Brg} (h : Fit w b o 18) (x : Int) : (put w b o p.enc).setCell ⟨b, o + 7, none⟩ (.int .u64 x) = put w b o ({ p with root := { p.root with root := x } } : Brg).enc := (put_setCell (k := 7) h rfl (by decide) _).trans rfl
@[go_sem ↓] theorem Brg.get_root_root (p : Brg) : p.enc.toArray[7]? = some (.int .u64 p.root.root) := rfl
@[go_sem] theorem Brg.at_root_root (p : Brg) (h : 7 < p.enc.length) : p.enc[7] = .int .u64 p.root.root := rfl
@[go_sem ↓] theorem Brg.lget_root_root (p : Brg) : p.enc[7]? = some (.int .u64 p.root.root) := rfl
@[go_sem] theorem Brg.cell_root_cost {w : World} {b o : Nat} {p : Brg} (h : Fit w b o 18) : (put w b o p.enc).cell? ⟨b, o + 8, none⟩ = some (.int .u32 p.root.cost) := (put_cell (k := 8) h rfl (by decide)).trans rfl
@[go_sem] theorem Brg.set_root_cost {w : World} {b o : Nat} {p : Brg} (h : Fit w b o 18) (x : Int) : (put w b o p.enc).setCell ⟨b, o + 8, none⟩ (.int .u32 x) = put w b o ({ p with root := { p.root with cost := x } } : Brg).enc := (put_setCell (k := 8) h rfl (by decide) _).trans rfl
@[go_sem ↓] theorem Brg.get_root_cost (p : Brg) : p.enc.toArray[8]? = some (.int .u32 p.root.cost) := rfl
@[go_sem] theorem Brg.at_root_cost (p : Brg) (h : 8 < p.enc.length) : p.enc[8] = .int .u32 p.root.cost := rfl
@[go_sem ↓] theorem Brg.lget_root_cost (p : Brg) : p.enc[8]? = some (.int .u32 p.root.cost) := rfl
@[go_sem] theorem Brg.cell_root_bridge {w : World} {b o : Nat} {p : Brg} (h : Fit w b o 18) : (put w b o p.enc).cell? ⟨b, o + 9, none⟩ = some (.int .u64 p.root.bridge) := (put_cell (k := 9) h rfl (by decide)).trans rfl
@[go_sem] theorem Brg.set_root_bridge {w : World} {b o : Nat} {p : Brg} (h : Fit w b o 18) (x : Int) : (put w b o p.enc).setCell ⟨b, o + 9, none⟩ (.int .u64 x) = put w b o ({ p with root := { p.root with bridge := x } } : Brg).enc := (put_setCell (k := 9) h rfl (by decide) _).trans rfl
@[go_sem ↓] theorem Brg.get_root_bridge (p : Brg) : p.enc.toArray[9]? = some (.int .u64 p.root.bridge) := rfl
@[go_sem] theorem Brg.at_root_bridge (p : Brg) (h : 9 < p.enc.length) : p.enc[9] = .int .u64 p.root.bridge := rfl
@[go_sem ↓] theorem Brg.lget_root_bridge (p : Brg) : p.enc[9]? = some (.int .u64 p.root.bridge) := rfl
@[go_sem] theorem Brg.cell_root_port {w : World} {b o : Nat} {p : Brg} (h : Fit w b o 18) : (put w b o p.enc).cell? ⟨b, o + 10, none⟩ = some (.int .u16 p.root.port) := (put_cell (k := 10) h rfl (by decide)).trans rfl
@[go_sem] theorem Brg.set_root_port {w : World} {b o : Nat} {p : Brg} (h : Fit w b o 18) (x : Int) : (put w b o p.enc).setCell ⟨b, o + 10, none⟩ (.int .u16 x) = put w b o ({ p with root := { p.root with port := x } } : Brg).enc := (put_setCell (k := 10) h rfl (by decide) _).trans rfl
@[go_sem ↓] theorem Brg.get_root_port (p : Brg) : p.enc.toArray[10]? = some (.int .u16 p.root.port) := rfl
@[go_sem] theorem Brg.at_root_port (p : Brg) (h : 10 < p.enc.length) : p.enc[10] = .int .u16 p.root.port := rfl
@[go_sem ↓] theorem Brg.lget_root_port (p : Brg) : p.enc[10]? = some (.int .u16 p.root.port) := rfl
@[go_sem] theorem Brg.cell_rootPort {w : World} {b o : Nat} {p : Brg} (h : Fit w b o 18) : (put w b o p.enc).cell? ⟨b, o + 11, none⟩ = some (.int .u16 p.rootPort) := (put_cell (k := 11) h rfl (by decide)).trans rfl
@[go_sem] theorem Brg.set_rootPort {w : World} {b o : Nat} {p : Brg} (h : Fit w b o 18) (x : Int) : (put w b o p.enc).setCell ⟨b, o + 11, none⟩ (.int .u16 x) = put w b o ({ p with rootPort := x } : Brg).enc := (put_setCell (k := 11) h rfl (by decide) _).trans rfl
@[go_sem ↓] theorem Brg.get_rootPort (p : Brg) : p.enc.toArray[11]? = some (.int .u16 p.rootPort) := rfl
@[go_sem] theorem Brg.at_rootPort (p : Brg) (h : 11 < p.enc.length) : p.enc[11] = .int .u16 p.rootPort := rfl
@[go_sem ↓] theorem Brg.lget_rootPort (p : Brg) : p.enc[11]? = some (.int .u16 p.rootPort) := rfl
@[go_sem] theorem Brg.cell_rootTimes_age {w : World} {b o : Nat} {p : Brg} (h : Fit w b o 18) : (put w b o p.enc).cell? ⟨b, o + 12, none⟩ = some (.int .i64 p.rootTimes.age) := (put_cell (k := 12) h rfl (by decide)).trans rfl
@[go_sem] theorem Brg.set_rootTimes_age {w : World} {b o : Nat} {p : Brg} (h : Fit w b o 18) (x : Int) : (put w b o p.enc).setCell ⟨b, o + 12, none⟩ (.int .i64 x) = put w b o ({ p with rootTimes := { p.rootTimes with age := x } } : Brg).enc := (put_setCell (k := 12) h rfl (by decide) _).trans rfl
@[go_sem ↓] theorem Brg.get_rootTimes_age (p : Brg) : p.enc.toArray[12]? = some (.int .i64 p.rootTimes.age) := rfl
@[go_sem] theorem Brg.at_rootTimes_age (p : Brg) (h : 12 < p.enc.length) : p.enc[12] = .int .i64 p.rootTimes.age := rfl
@[go_sem ↓] theorem Brg.lget_rootTimes_age (p : Brg) : p.enc[12]? = some (.int .i64 p.rootTimes.age) := rfl
@[go_sem] theorem Brg.cell_rootTimes_max {w : World} {b o : Nat} {p : Brg} (h : Fit w b o 18) : (put w b o p.enc).cell? ⟨b, o + 13, none⟩ = some (.int .i64 p.rootTimes.max) := (put_cell (k := 13) h rfl (by decide)).trans rfl
@[go_sem] theorem Brg.set_rootTimes_max {w : World} {b o : Nat} {p : Brg} (h : Fit w b o 18) (x : Int) : (put w b o p.enc).setCell ⟨b, o + 13, none⟩ (.int .i64 x) = put w b o ({ p with rootTimes := { p.rootTimes with max := x } } : Brg).enc := (put_setCell (k := 13) h rfl (by decide) _).trans rfl
@[go_sem ↓] theorem Brg.get_rootTimes_max (p : Brg) : p.enc.toArray[13]? = some (.int .i64 p.rootTimes.max) := rfl
@[go_sem] theorem Brg.at_rootTimes_max (p : Brg) (h : 13 < p.enc.length) : p.enc[13] = .int .i64 p.rootTimes.max := rfl
@[go_sem ↓] theorem Brg.lget_rootTimes_max (p : Brg) : p.enc[13]? = some (.int .i64 p.rootTimes.max) := rfl
@[go_sem] theorem Brg.cell_rootTimes_hello {w : World} {b o : Nat} {p : Brg} (h : Fit w b o 18) : (put w b o p.enc).cell? ⟨b, o + 14, none⟩ = some (.int .i64 p.rootTimes.hello) := (put_cell (k := 14) h rfl (by decide)).trans rfl
@[go_sem] theorem Brg.set_rootTimes_hello {w : World} {b o : Nat} {p : Brg} (h : Fit w b o 18) (x : Int) : (put w b o p.enc).setCell ⟨b, o + 14, none⟩ (.int .i64 x) = put w b o ({ p with rootTimes := { p.rootTimes with hello := x } } : Brg).enc := (put_setCell (k := 14) h rfl (by decide) _).trans rfl
@[go_sem ↓] theorem Brg.get_rootTimes_hello (p : Brg) : p.enc.toArray[14]? = some (.int .i64 p.rootTimes.hello) := rfl
@[go_sem] theorem Brg.at_rootTimes_hello (p : Brg) (h : 14 < p.enc.length) : p.enc[14] = .int .i64 p.rootTimes.hello := rfl
@[go_sem ↓] theorem Brg.lget_rootTimes_hello (p : Brg) : p.enc[14]? = some (.int .i64 p.rootTimes.hello) := rfl
@[go_sem] theorem Brg.cell_rootTimes_delay {w : World} {b o : Nat} {p : Brg} (h : Fit w b o 18) : (put w b o p.enc).cell? ⟨b, o + 15, none⟩ = some (.int .i64 p.rootTimes.delay) := (put_cell (k := 15) h rfl (by decide)).trans rfl
@[go_sem] theorem Brg.set_rootTimes_delay {w : World} {b o : Nat} {p : Brg} (h : Fit w b o 18) (x : Int) : (put w b o p.enc).setCell ⟨b, o + 15, none⟩ (.int .i64 x) = put w b o ({ p with rootTimes := { p.rootTimes with delay := x } } : Brg).enc := (put_setCell (k := 15) h rfl (by decide) _).trans rfl
@[go_sem ↓] theorem Brg.get_rootTimes_delay (p : Brg) : p.enc.toArray[15]? = some (.int .i64 p.rootTimes.delay) := rfl
@[go_sem] theorem Brg.at_rootTimes_delay (p : Brg) (h : 15 < p.enc.length) : p.enc[15] = .int .i64 p.rootTimes.delay := rfl
@[go_sem ↓] theorem Brg.lget_rootTimes_delay (p : Brg) : p.enc[15]? = some (.int .i64 p.rootTimes.delay) := rfl
@[go_sem] theorem Brg.cell_prs {w : World} {b o : Nat} {p : Brg} (h : Fit w b o 18) : (put w b o p.enc).cell? ⟨b, o + 16, none⟩ = some (.int .i64 p.prs) := (put_cell (k := 16) h rfl (by decide)).trans rfl
@[go_sem] theorem Brg.set_prs {w : World} {b o : Nat} {p : Brg} (h : Fit w b o 18) (x : Int) : (put w b o p.enc).setCell ⟨b, o + 16, none⟩ (.int .i64 x) = put w b o ({ p with prs := x } : Brg).enc := (put_setCell (k := 16) h rfl (by decide) _).trans rfl
@[go_sem ↓] theorem Brg.get_prs (p : Brg) : p.enc.toArray[16]? = some (.int .i64 p.prs) := rfl
@[go_sem] theorem Brg.at_prs (p : Brg) (h : 16 < p.enc.length) : p.enc[16] = .int .i64 p.prs := rfl
@[go_sem ↓] theorem Brg.lget_prs (p : Brg) : p.enc[16]? = some (.int .i64 p.prs) := rfl
@[go_sem] theorem Brg.cell_ports {w : World} {b o : Nat} {p : Brg} (h : Fit w b o 18) : (put w b o p.enc).cell? ⟨b, o + 17, none⟩ = some (.slice p.ports.a p.ports.n p.ports.c) := (put_cell (k := 17) h rfl (by decide)).trans rfl
@[go_sem] theorem Brg.set_ports {w : World} {b o : Nat} {p : Brg} (h : Fit w b o 18) (a : Option Addr) (n c : Nat) : (put w b o p.enc).setCell ⟨b, o + 17, none⟩ (.slice a n c) = put w b o ({ p with ports := ⟨a, n, c⟩ } : Brg).enc := (put_setCell (k := 17) h rfl (by decide) _).trans rfl
@[go_sem ↓] theorem Brg.get_ports (p : Brg) : p.enc.toArray[17]? = some (.slice p.ports.a p.ports.n p.ports.c) := rfl
@[go_sem] theorem Brg.at_ports (p : Brg) (h : 17 < p.enc.length) : p.enc[17] = .slice p.ports.a p.ports.n p.ports.c := rfl
@[go_sem ↓] theorem Brg.lget_ports (p : Brg) : p.enc[17]? = some (.slice p.ports.a p.ports.n p.ports.c) := rfl
@[go_sem] theorem Brg.frozen {w : World} {b o k : Nat} {p : Brg} (h : Fit w b o 18) : (put w b o p.enc).frozen? ⟨b, k, none⟩ = false := put_frozen h
@[go_sem ↓] theorem Brg.rd {w : World} {b o : Nat} {p : Brg} (h : Fit w b o 18) : rdCells (put w b o p.enc) ⟨b, o, none⟩ 0 18 = some p.enc := rdCells_put h rfl
@[go_sem ↓] theorem Brg.wr {w : World} {b o : Nat} {p q : Brg} (h : Fit w b o 18) : wrCells (put w b o p.enc) ⟨b, o, none⟩ 0 q.enc = some (put w b o q.enc) := wrCells_put h rfl rfl rfl
@[go_sem ↓] theorem Brg.store (P : Program) (a : Addr) (q : Brg) (w : World) : (storeCells a q.enc 0).run P w = (match wrCells w a 0 q.enc with | some w' => .ok () w' | none => storeSlow P a q.enc w) := store_wr P a q.enc w
@[go_sem ↓] theorem Brg.rd_times {w : World} {b o : Nat} {p : Brg} (h : Fit w b o 18) : rdCells (put w b o p.enc) ⟨b, o + 1, none⟩ 0 4 = some p.times.enc := rdCells_put_sub (k := 1) h rfl rfl rfl (by decide)
@[go_sem ↓] theorem Brg.wr_times {w : World} {b o : Nat} {p : Brg} {q : Tms} (h : Fit w b o 18) : wrCells (put w b o p.enc) ⟨b, o + 1, none⟩ 0 q.enc = some (put w b o ({ p with times := q } : Brg).enc) := wrCells_put_sub (k := 1) (m := 4) h rfl rfl (by decide) rfl rfl
@[go_sem] theorem Brg.dt_times (p : Brg) : (p.enc.drop 1).take 4 = p.times.enc := rfl
@[go_sem ↓] theorem Brg.part_times (p : Brg) : p.enc.toArray.extract 1 5 = p.times.enc.toArray := rfl
@[go_sem ↓] theorem Brg.rd_root {w : World} {b o : Nat} {p : Brg} (h : Fit w b o 18) : rdCells (put w b o p.enc) ⟨b, o + 7, none⟩ 0 4 = some p.root.enc := rdCells_put_sub (k := 7) h rfl rfl rfl (by decide)
@[go_sem ↓] theorem Brg.wr_root {w : World} {b o : Nat} {p : Brg} {q : Vec} (h : Fit w b o 18) : wrCells (put w b o p.enc) ⟨b, o + 7, none⟩ 0 q.enc = some (put w b o ({ p with root := q } : Brg).enc) := wrCells_put_sub (k := 7) (m := 4) h rfl rfl (by decide) rfl rfl
@[go_sem] theorem Brg.dt_root (p : Brg) : (p.enc.drop 7).take 4 = p.root.enc := rfl
@[go_sem ↓] theorem Brg.part_root (p : Brg) : p.enc.toArray.extract 7 11 = p.root.enc.toArray := rfl
@[go_sem ↓] theorem Brg.rd_rootTimes {w : World} {b o : Nat} {p : Brg} (h : Fit w b o 18) : rdCells (put w b o p.enc) ⟨b, o + 12, none⟩ 0 4 = some p.rootTimes.enc := rdCells_put_sub (k := 12) h rfl rfl rfl (by decide)
@[go_sem ↓] theorem Brg.wr_rootTimes {w : World} {b o : Nat} {p : Brg} {q : Tms} (h : Fit w b o 18) : wrCells (put w b o p.enc) ⟨b, o + 12, none⟩ 0 q.enc = some (put w b o ({ p with rootTimes := q } : Brg).enc) := wrCells_put_sub (k := 12) (m := 4) h rfl rfl (by decide) rfl rfl
@[go_sem] theorem Brg.dt_rootTimes (p : Brg) : (p.enc.drop 12).take 4 = p.rootTimes.enc := rfl
@[go_sem ↓] theorem Brg.part_rootTimes (p : Brg) : p.enc.toArray.extract 12 16 = p.rootTimes.enc.toArray := rfl
end Go.Proofs.Ytogekloaijidhaa
