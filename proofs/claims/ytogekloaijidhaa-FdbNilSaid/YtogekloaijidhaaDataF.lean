/- MORE DATA: Lean structures for the program's structs of layer 10. Printed by structs.py. -/
import Derived.Test.YtogekloaijidhaaRefC
set_option maxRecDepth 100000
namespace Go.Proofs.Ytogekloaijidhaa
open Go Go.RowKit
@[ext] structure Ent where
  mac : Mac
  port : Int
  ports : Int
  age : Int
  static : Bool
  deriving DecidableEq, Inhabited
def Ent.zero : Ent := { mac := Mac.zero, port := 0, ports := 0, age := 0, static := false }
/-- The cells of a Ent. -/
def Ent.enc (p : Ent) : List Value := [.int .u8 p.mac.b0, .int .u8 p.mac.b1, .int .u8 p.mac.b2, .int .u8 p.mac.b3, .int .u8 p.mac.b4, .int .u8 p.mac.b5, .int .i64 p.port, .int .u32 p.ports, .int .i64 p.age, .bool p.static]
theorem Ent.zero_lit : #[(Value.int .u8 0), (Value.int .u8 0), (Value.int .u8 0), (Value.int .u8 0), (Value.int .u8 0), (Value.int .u8 0), (Value.int .i64 0), (Value.int .u32 0), (Value.int .i64 0), (Value.bool false)] = Ent.zero.enc.toArray := rfl
@[simp, go_sem] theorem Ent.length_enc (p : Ent) : p.enc.length = 10 := rfl
@[simp, go_sem] theorem Ent.size_enc (p : Ent) : p.enc.toArray.size = 10 := rfl
@[simp, go_sem] theorem Ent.tk (p : Ent) : p.enc.take 10 = p.enc := rfl
theorem Ent.one (p : Ent) : p.enc.all Value.oneCell' = true := rfl
@[go_sem] theorem Ent.cell_mac_b0 {w : World} {b o : Nat} {p : Ent} (h : Fit w b o 10) : (put w b o p.enc).cell? ⟨b, o, none⟩ = some (.int .u8 p.mac.b0) := (put_cell (k := 0) h rfl (by decide)).trans rfl
@[go_sem] theorem Ent.set_mac_b0 {w : World} {b o : Nat} {p : Ent} (h : Fit w b o 10) (x : Int) : (put w b o p.enc).setCell ⟨b, o, none⟩ (.int .u8 x) = put w b o ({ p with mac := { p.mac with b0 := x } } : Ent).enc := (put_setCell (k := 0) h rfl (by decide) _).trans rfl
@[go_sem ↓] theorem Ent.get_mac_b0 (p : Ent) : p.enc.toArray[0]? = some (.int .u8 p.mac.b0) := rfl
@[go_sem] theorem Ent.at_mac_b0 (p : Ent) (h : 0 < p.enc.length) : p.enc[0] = .int .u8 p.mac.b0 := rfl
@[go_sem ↓] theorem Ent.lget_mac_b0 (p : Ent) : p.enc[0]? = some (.int .u8 p.mac.b0) := rfl
@[go_sem] theorem Ent.cell_mac_b1 {w : World} {b o : Nat} {p : Ent} (h : Fit w b o 10) : (put w b o p.enc).cell? ⟨b, o + 1, none⟩ = some (.int .u8 p.mac.b1) := (put_cell (k := 1) h rfl (by decide)).trans rfl
@[go_sem] theorem Ent.set_mac_b1 {w : World} {b o : Nat} {p : Ent} (h : Fit w b o 10) (x : Int) : (put w b o p.enc).setCell ⟨b, o + 1, none⟩ (.int .u8 x) = put w b o ({ p with mac := { p.mac with b1 := x } } : Ent).enc := (put_setCell (k := 1) h rfl (by decide) _).trans rfl
@[go_sem ↓] theorem Ent.get_mac_b1 (p : Ent) : p.enc.toArray[1]? = some (.int .u8 p.mac.b1) := rfl
@[go_sem] theorem Ent.at_mac_b1 (p : Ent) (h : 1 < p.enc.length) : p.enc[1] = .int .u8 p.mac.b1 := rfl
@[go_sem ↓] theorem Ent.lget_mac_b1 (p : Ent) : p.enc[1]? = some (.int .u8 p.mac.b1) := rfl
@[go_sem] theorem Ent.cell_mac_b2 {w : World} {b o : Nat} {p : Ent} (h : Fit w b o 10) : (put w b o p.enc).cell? ⟨b, o + 2, none⟩ = some (.int .u8 p.mac.b2) := (put_cell (k := 2) h rfl (by decide)).trans rfl
@[go_sem] theorem Ent.set_mac_b2 {w : World} {b o : Nat} {p : Ent} (h : Fit w b o 10) (x : Int) : (put w b o p.enc).setCell ⟨b, o + 2, none⟩ (.int .u8 x) = put w b o ({ p with mac := { p.mac with b2 := x } } : Ent).enc := (put_setCell (k := 2) h rfl (by decide) _).trans rfl
@[go_sem ↓] theorem Ent.get_mac_b2 (p : Ent) : p.enc.toArray[2]? = some (.int .u8 p.mac.b2) := rfl
@[go_sem] theorem Ent.at_mac_b2 (p : Ent) (h : 2 < p.enc.length) : p.enc[2] = .int .u8 p.mac.b2 := rfl
@[go_sem ↓] theorem Ent.lget_mac_b2 (p : Ent) : p.enc[2]? = some (.int .u8 p.mac.b2) := rfl
@[go_sem] theorem Ent.cell_mac_b3 {w : World} {b o : Nat} {p : Ent} (h : Fit w b o 10) : (put w b o p.enc).cell? ⟨b, o + 3, none⟩ = some (.int .u8 p.mac.b3) := (put_cell (k := 3) h rfl (by decide)).trans rfl
@[go_sem] theorem Ent.set_mac_b3 {w : World} {b o : Nat} {p : Ent} (h : Fit w b o 10) (x : Int) : (put w b o p.enc).setCell ⟨b, o + 3, none⟩ (.int .u8 x) = put w b o ({ p with mac := { p.mac with b3 := x } } : Ent).enc := (put_setCell (k := 3) h rfl (by decide) _).trans rfl
@[go_sem ↓] theorem Ent.get_mac_b3 (p : Ent) : p.enc.toArray[3]? = some (.int .u8 p.mac.b3) := rfl
@[go_sem] theorem Ent.at_mac_b3 (p : Ent) (h : 3 < p.enc.length) : p.enc[3] = .int .u8 p.mac.b3 := rfl
@[go_sem ↓] theorem Ent.lget_mac_b3 (p : Ent) : p.enc[3]? = some (.int .u8 p.mac.b3) := rfl
@[go_sem] theorem Ent.cell_mac_b4 {w : World} {b o : Nat} {p : Ent} (h : Fit w b o 10) : (put w b o p.enc).cell? ⟨b, o + 4, none⟩ = some (.int .u8 p.mac.b4) := (put_cell (k := 4) h rfl (by decide)).trans rfl
@[go_sem] theorem Ent.set_mac_b4 {w : World} {b o : Nat} {p : Ent} (h : Fit w b o 10) (x : Int) : (put w b o p.enc).setCell ⟨b, o + 4, none⟩ (.int .u8 x) = put w b o ({ p with mac := { p.mac with b4 := x } } : Ent).enc := (put_setCell (k := 4) h rfl (by decide) _).trans rfl
@[go_sem ↓] theorem Ent.get_mac_b4 (p : Ent) : p.enc.toArray[4]? = some (.int .u8 p.mac.b4) := rfl
@[go_sem] theorem Ent.at_mac_b4 (p : Ent) (h : 4 < p.enc.length) : p.enc[4] = .int .u8 p.mac.b4 := rfl
@[go_sem ↓] theorem Ent.lget_mac_b4 (p : Ent) : p.enc[4]? = some (.int .u8 p.mac.b4) := rfl
@[go_sem] theorem Ent.cell_mac_b5 {w : World} {b o : Nat} {p : Ent} (h : Fit w b o 10) : (put w b o p.enc).cell? ⟨b, o + 5, none⟩ = some (.int .u8 p.mac.b5) := (put_cell (k := 5) h rfl (by decide)).trans rfl
@[go_sem] theorem Ent.set_mac_b5 {w : World} {b o : Nat} {p : Ent} (h : Fit w b o 10) (x : Int) : (put w b o p.enc).setCell ⟨b, o + 5, none⟩ (.int .u8 x) = put w b o ({ p with mac := { p.mac with b5 := x } } : Ent).enc := (put_setCell (k := 5) h rfl (by decide) _).trans rfl
@[go_sem ↓] theorem Ent.get_mac_b5 (p : Ent) : p.enc.toArray[5]? = some (.int .u8 p.mac.b5) := rfl
@[go_sem] theorem Ent.at_mac_b5 (p : Ent) (h : 5 < p.enc.length) : p.enc[5] = .int .u8 p.mac.b5 := rfl
@[go_sem ↓] theorem Ent.lget_mac_b5 (p : Ent) : p.enc[5]? = some (.int .u8 p.mac.b5) := rfl
@[go_sem] theorem Ent.cell_port {w : World} {b o : Nat} {p : Ent} (h : Fit w b o 10) : (put w b o p.enc).cell? ⟨b, o + 6, none⟩ = some (.int .i64 p.port) := (put_cell (k := 6) h rfl (by decide)).trans rfl
@[go_sem] theorem Ent.set_port {w : World} {b o : Nat} {p : Ent} (h : Fit w b o 10) (x : Int) : (put w b o p.enc).setCell ⟨b, o + 6, none⟩ (.int .i64 x) = put w b o ({ p with port := x } : Ent).enc := (put_setCell (k := 6) h rfl (by decide) _).trans rfl
@[go_sem ↓] theorem Ent.get_port (p : Ent) : p.enc.toArray[6]? = some (.int .i64 p.port) := rfl
@[go_sem] theorem Ent.at_port (p : Ent) (h : 6 < p.enc.length) : p.enc[6] = .int .i64 p.port := rfl
@[go_sem ↓] theorem Ent.lget_port (p : Ent) : p.enc[6]? = some (.int .i64 p.port) := rfl
@[go_sem] theorem Ent.cell_ports {w : World} {b o : Nat} {p : Ent} (h : Fit w b o 10) : (put w b o p.enc).cell? ⟨b, o + 7, none⟩ = some (.int .u32 p.ports) := (put_cell (k := 7) h rfl (by decide)).trans rfl
@[go_sem] theorem Ent.set_ports {w : World} {b o : Nat} {p : Ent} (h : Fit w b o 10) (x : Int) : (put w b o p.enc).setCell ⟨b, o + 7, none⟩ (.int .u32 x) = put w b o ({ p with ports := x } : Ent).enc := (put_setCell (k := 7) h rfl (by decide) _).trans rfl
@[go_sem ↓] theorem Ent.get_ports (p : Ent) : p.enc.toArray[7]? = some (.int .u32 p.ports) := rfl
@[go_sem] theorem Ent.at_ports (p : Ent) (h : 7 < p.enc.length) : p.enc[7] = .int .u32 p.ports := rfl
@[go_sem ↓] theorem Ent.lget_ports (p : Ent) : p.enc[7]? = some (.int .u32 p.ports) := rfl
@[go_sem] theorem Ent.cell_age {w : World} {b o : Nat} {p : Ent} (h : Fit w b o 10) : (put w b o p.enc).cell? ⟨b, o + 8, none⟩ = some (.int .i64 p.age) := (put_cell (k := 8) h rfl (by decide)).trans rfl
@[go_sem] theorem Ent.set_age {w : World} {b o : Nat} {p : Ent} (h : Fit w b o 10) (x : Int) : (put w b o p.enc).setCell ⟨b, o + 8, none⟩ (.int .i64 x) = put w b o ({ p with age := x } : Ent).enc := (put_setCell (k := 8) h rfl (by decide) _).trans rfl
@[go_sem ↓] theorem Ent.get_age (p : Ent) : p.enc.toArray[8]? = some (.int .i64 p.age) := rfl
@[go_sem] theorem Ent.at_age (p : Ent) (h : 8 < p.enc.length) : p.enc[8] = .int .i64 p.age := rfl
@[go_sem ↓] theorem Ent.lget_age (p : Ent) : p.enc[8]? = some (.int .i64 p.age) := rfl
@[go_sem] theorem Ent.cell_static {w : World} {b o : Nat} {p : Ent} (h : Fit w b o 10) : (put w b o p.enc).cell? ⟨b, o + 9, none⟩ = some (.bool p.static) := (put_cell (k := 9) h rfl (by decide)).trans rfl
@[go_sem] theorem Ent.set_static {w : World} {b o : Nat} {p : Ent} (h : Fit w b o 10) (x : Bool) : (put w b o p.enc).setCell ⟨b, o + 9, none⟩ (.bool x) = put w b o ({ p with static := x } : Ent).enc := (put_setCell (k := 9) h rfl (by decide) _).trans rfl
@[go_sem ↓] theorem Ent.get_static (p : Ent) : p.enc.toArray[9]? = some (.bool p.static) := rfl
@[go_sem] theorem Ent.at_static (p : Ent) (h : 9 < p.enc.length) : p.enc[9] = .bool p.static := rfl
@[go_sem ↓] theorem Ent.lget_static (p : Ent) : p.enc[9]? = some (.bool p.static) := rfl
@[go_sem] theorem Ent.frozen {w : World} {b o k : Nat} {p : Ent} (h : Fit w b o 10) : (put w b o p.enc).frozen? ⟨b, k, none⟩ = false := put_frozen h
@[go_sem ↓] theorem Ent.rd {w : World} {b o : Nat} {p : Ent} (h : Fit w b o 10) : rdCells (put w b o p.enc) ⟨b, o, none⟩ 0 10 = some p.enc := rdCells_put h rfl
@[go_sem ↓] theorem Ent.wr {w : World} {b o : Nat} {p q : Ent} (h : Fit w b o 10) : wrCells (put w b o p.enc) ⟨b, o, none⟩ 0 q.enc = some (put w b o q.enc) := wrCells_put h rfl rfl rfl
@[go_sem ↓] theorem Ent.store (P : Program) (a : Addr) (q : Ent) (w : World) : (storeCells a q.enc 0).run P w = (match wrCells w a 0 q.enc with | some w' => .ok () w' | none => storeSlow P a q.enc w) := store_wr P a q.enc w
@[go_sem ↓] theorem Ent.rd_mac {w : World} {b o : Nat} {p : Ent} (h : Fit w b o 10) : rdCells (put w b o p.enc) ⟨b, o, none⟩ 0 6 = some p.mac.enc := rdCells_put_sub (k := 0) h rfl rfl rfl (by decide)
@[go_sem ↓] theorem Ent.wr_mac {w : World} {b o : Nat} {p : Ent} {q : Mac} (h : Fit w b o 10) : wrCells (put w b o p.enc) ⟨b, o, none⟩ 0 q.enc = some (put w b o ({ p with mac := q } : Ent).enc) := wrCells_put_sub (k := 0) (m := 6) h rfl rfl (by decide) rfl rfl
@[go_sem] theorem Ent.dt_mac (p : Ent) : (p.enc.drop 0).take 6 = p.mac.enc := rfl
@[go_sem ↓] theorem Ent.part_mac (p : Ent) : p.enc.toArray.extract 0 6 = p.mac.enc.toArray := rfl
@[ext] structure Tab where
  slots : Sl
  used : Sl
  n : Int
  most : Int
  deriving DecidableEq, Inhabited
def Tab.zero : Tab := { slots := ⟨none, 0, 0⟩, used := ⟨none, 0, 0⟩, n := 0, most := 0 }
/-- The cells of a Tab. -/
def Tab.enc (p : Tab) : List Value := [.slice p.slots.a p.slots.n p.slots.c, .slice p.used.a p.used.n p.used.c, .int .i64 p.n, .int .i64 p.most]
theorem Tab.zero_lit : #[(Value.slice none 0 0), (Value.slice none 0 0), (Value.int .i64 0), (Value.int .i64 0)] = Tab.zero.enc.toArray := rfl
@[simp, go_sem] theorem Tab.length_enc (p : Tab) : p.enc.length = 4 := rfl
@[simp, go_sem] theorem Tab.size_enc (p : Tab) : p.enc.toArray.size = 4 := rfl
@[simp, go_sem] theorem Tab.tk (p : Tab) : p.enc.take 4 = p.enc := rfl
theorem Tab.one (p : Tab) : p.enc.all Value.oneCell' = true := rfl
@[go_sem] theorem Tab.cell_slots {w : World} {b o : Nat} {p : Tab} (h : Fit w b o 4) : (put w b o p.enc).cell? ⟨b, o, none⟩ = some (.slice p.slots.a p.slots.n p.slots.c) := (put_cell (k := 0) h rfl (by decide)).trans rfl
@[go_sem] theorem Tab.set_slots {w : World} {b o : Nat} {p : Tab} (h : Fit w b o 4) (a : Option Addr) (n c : Nat) : (put w b o p.enc).setCell ⟨b, o, none⟩ (.slice a n c) = put w b o ({ p with slots := ⟨a, n, c⟩ } : Tab).enc := (put_setCell (k := 0) h rfl (by decide) _).trans rfl
@[go_sem ↓] theorem Tab.get_slots (p : Tab) : p.enc.toArray[0]? = some (.slice p.slots.a p.slots.n p.slots.c) := rfl
@[go_sem] theorem Tab.at_slots (p : Tab) (h : 0 < p.enc.length) : p.enc[0] = .slice p.slots.a p.slots.n p.slots.c := rfl
@[go_sem ↓] theorem Tab.lget_slots (p : Tab) : p.enc[0]? = some (.slice p.slots.a p.slots.n p.slots.c) := rfl
@[go_sem] theorem Tab.cell_used {w : World} {b o : Nat} {p : Tab} (h : Fit w b o 4) : (put w b o p.enc).cell? ⟨b, o + 1, none⟩ = some (.slice p.used.a p.used.n p.used.c) := (put_cell (k := 1) h rfl (by decide)).trans rfl
@[go_sem] theorem Tab.set_used {w : World} {b o : Nat} {p : Tab} (h : Fit w b o 4) (a : Option Addr) (n c : Nat) : (put w b o p.enc).setCell ⟨b, o + 1, none⟩ (.slice a n c) = put w b o ({ p with used := ⟨a, n, c⟩ } : Tab).enc := (put_setCell (k := 1) h rfl (by decide) _).trans rfl
@[go_sem ↓] theorem Tab.get_used (p : Tab) : p.enc.toArray[1]? = some (.slice p.used.a p.used.n p.used.c) := rfl
@[go_sem] theorem Tab.at_used (p : Tab) (h : 1 < p.enc.length) : p.enc[1] = .slice p.used.a p.used.n p.used.c := rfl
@[go_sem ↓] theorem Tab.lget_used (p : Tab) : p.enc[1]? = some (.slice p.used.a p.used.n p.used.c) := rfl
@[go_sem] theorem Tab.cell_n {w : World} {b o : Nat} {p : Tab} (h : Fit w b o 4) : (put w b o p.enc).cell? ⟨b, o + 2, none⟩ = some (.int .i64 p.n) := (put_cell (k := 2) h rfl (by decide)).trans rfl
@[go_sem] theorem Tab.set_n {w : World} {b o : Nat} {p : Tab} (h : Fit w b o 4) (x : Int) : (put w b o p.enc).setCell ⟨b, o + 2, none⟩ (.int .i64 x) = put w b o ({ p with n := x } : Tab).enc := (put_setCell (k := 2) h rfl (by decide) _).trans rfl
@[go_sem ↓] theorem Tab.get_n (p : Tab) : p.enc.toArray[2]? = some (.int .i64 p.n) := rfl
@[go_sem] theorem Tab.at_n (p : Tab) (h : 2 < p.enc.length) : p.enc[2] = .int .i64 p.n := rfl
@[go_sem ↓] theorem Tab.lget_n (p : Tab) : p.enc[2]? = some (.int .i64 p.n) := rfl
@[go_sem] theorem Tab.cell_most {w : World} {b o : Nat} {p : Tab} (h : Fit w b o 4) : (put w b o p.enc).cell? ⟨b, o + 3, none⟩ = some (.int .i64 p.most) := (put_cell (k := 3) h rfl (by decide)).trans rfl
@[go_sem] theorem Tab.set_most {w : World} {b o : Nat} {p : Tab} (h : Fit w b o 4) (x : Int) : (put w b o p.enc).setCell ⟨b, o + 3, none⟩ (.int .i64 x) = put w b o ({ p with most := x } : Tab).enc := (put_setCell (k := 3) h rfl (by decide) _).trans rfl
@[go_sem ↓] theorem Tab.get_most (p : Tab) : p.enc.toArray[3]? = some (.int .i64 p.most) := rfl
@[go_sem] theorem Tab.at_most (p : Tab) (h : 3 < p.enc.length) : p.enc[3] = .int .i64 p.most := rfl
@[go_sem ↓] theorem Tab.lget_most (p : Tab) : p.enc[3]? = some (.int .i64 p.most) := rfl
@[go_sem] theorem Tab.frozen {w : World} {b o k : Nat} {p : Tab} (h : Fit w b o 4) : (put w b o p.enc).frozen? ⟨b, k, none⟩ = false := put_frozen h
@[go_sem ↓] theorem Tab.rd {w : World} {b o : Nat} {p : Tab} (h : Fit w b o 4) : rdCells (put w b o p.enc) ⟨b, o, none⟩ 0 4 = some p.enc := rdCells_put h rfl
@[go_sem ↓] theorem Tab.wr {w : World} {b o : Nat} {p q : Tab} (h : Fit w b o 4) : wrCells (put w b o p.enc) ⟨b, o, none⟩ 0 q.enc = some (put w b o q.enc) := wrCells_put h rfl rfl rfl
@[go_sem ↓] theorem Tab.store (P : Program) (a : Addr) (q : Tab) (w : World) : (storeCells a q.enc 0).run P w = (match wrCells w a 0 q.enc with | some w' => .ok () w' | none => storeSlow P a q.enc w) := store_wr P a q.enc w
@[ext] structure U9 where
  u0 : Int
  u1 : Int
  u2 : Int
  u3 : Int
  u4 : Int
  u5 : Int
  u6 : Int
  u7 : Int
  u8 : Int
  deriving DecidableEq, Inhabited
def U9.zero : U9 := { u0 := 0, u1 := 0, u2 := 0, u3 := 0, u4 := 0, u5 := 0, u6 := 0, u7 := 0, u8 := 0 }
/-- The cells of a U9. -/
def U9.enc (p : U9) : List Value := [.int .u8 p.u0, .int .u8 p.u1, .int .u8 p.u2, .int .u8 p.u3, .int .u8 p.u4, .int .u8 p.u5, .int .u8 p.u6, .int .u8 p.u7, .int .u8 p.u8]
theorem U9.zero_lit : #[(Value.int .u8 0), (Value.int .u8 0), (Value.int .u8 0), (Value.int .u8 0), (Value.int .u8 0), (Value.int .u8 0), (Value.int .u8 0), (Value.int .u8 0), (Value.int .u8 0)] = U9.zero.enc.toArray := rfl
@[simp, go_sem] theorem U9.length_enc (p : U9) : p.enc.length = 9 := rfl
@[simp, go_sem] theorem U9.size_enc (p : U9) : p.enc.toArray.size = 9 := rfl
@[simp, go_sem] theorem U9.tk (p : U9) : p.enc.take 9 = p.enc := rfl
theorem U9.one (p : U9) : p.enc.all Value.oneCell' = true := rfl
@[go_sem] theorem U9.cell_u0 {w : World} {b o : Nat} {p : U9} (h : Fit w b o 9) : (put w b o p.enc).cell? ⟨b, o, none⟩ = some (.int .u8 p.u0) := (put_cell (k := 0) h rfl (by decide)).trans rfl
@[go_sem] theorem U9.set_u0 {w : World} {b o : Nat} {p : U9} (h : Fit w b o 9) (x : Int) : (put w b o p.enc).setCell ⟨b, o, none⟩ (.int .u8 x) = put w b o ({ p with u0 := x } : U9).enc := (put_setCell (k := 0) h rfl (by decide) _).trans rfl
@[go_sem ↓] theorem U9.get_u0 (p : U9) : p.enc.toArray[0]? = some (.int .u8 p.u0) := rfl
@[go_sem] theorem U9.at_u0 (p : U9) (h : 0 < p.enc.length) : p.enc[0] = .int .u8 p.u0 := rfl
@[go_sem ↓] theorem U9.lget_u0 (p : U9) : p.enc[0]? = some (.int .u8 p.u0) := rfl
@[go_sem] theorem U9.cell_u1 {w : World} {b o : Nat} {p : U9} (h : Fit w b o 9) : (put w b o p.enc).cell? ⟨b, o + 1, none⟩ = some (.int .u8 p.u1) := (put_cell (k := 1) h rfl (by decide)).trans rfl
@[go_sem] theorem U9.set_u1 {w : World} {b o : Nat} {p : U9} (h : Fit w b o 9) (x : Int) : (put w b o p.enc).setCell ⟨b, o + 1, none⟩ (.int .u8 x) = put w b o ({ p with u1 := x } : U9).enc := (put_setCell (k := 1) h rfl (by decide) _).trans rfl
@[go_sem ↓] theorem U9.get_u1 (p : U9) : p.enc.toArray[1]? = some (.int .u8 p.u1) := rfl
@[go_sem] theorem U9.at_u1 (p : U9) (h : 1 < p.enc.length) : p.enc[1] = .int .u8 p.u1 := rfl
@[go_sem ↓] theorem U9.lget_u1 (p : U9) : p.enc[1]? = some (.int .u8 p.u1) := rfl
@[go_sem] theorem U9.cell_u2 {w : World} {b o : Nat} {p : U9} (h : Fit w b o 9) : (put w b o p.enc).cell? ⟨b, o + 2, none⟩ = some (.int .u8 p.u2) := (put_cell (k := 2) h rfl (by decide)).trans rfl
@[go_sem] theorem U9.set_u2 {w : World} {b o : Nat} {p : U9} (h : Fit w b o 9) (x : Int) : (put w b o p.enc).setCell ⟨b, o + 2, none⟩ (.int .u8 x) = put w b o ({ p with u2 := x } : U9).enc := (put_setCell (k := 2) h rfl (by decide) _).trans rfl
@[go_sem ↓] theorem U9.get_u2 (p : U9) : p.enc.toArray[2]? = some (.int .u8 p.u2) := rfl
@[go_sem] theorem U9.at_u2 (p : U9) (h : 2 < p.enc.length) : p.enc[2] = .int .u8 p.u2 := rfl
@[go_sem ↓] theorem U9.lget_u2 (p : U9) : p.enc[2]? = some (.int .u8 p.u2) := rfl
@[go_sem] theorem U9.cell_u3 {w : World} {b o : Nat} {p : U9} (h : Fit w b o 9) : (put w b o p.enc).cell? ⟨b, o + 3, none⟩ = some (.int .u8 p.u3) := (put_cell (k := 3) h rfl (by decide)).trans rfl
@[go_sem] theorem U9.set_u3 {w : World} {b o : Nat} {p : U9} (h : Fit w b o 9) (x : Int) : (put w b o p.enc).setCell ⟨b, o + 3, none⟩ (.int .u8 x) = put w b o ({ p with u3 := x } : U9).enc := (put_setCell (k := 3) h rfl (by decide) _).trans rfl
@[go_sem ↓] theorem U9.get_u3 (p : U9) : p.enc.toArray[3]? = some (.int .u8 p.u3) := rfl
@[go_sem] theorem U9.at_u3 (p : U9) (h : 3 < p.enc.length) : p.enc[3] = .int .u8 p.u3 := rfl
@[go_sem ↓] theorem U9.lget_u3 (p : U9) : p.enc[3]? = some (.int .u8 p.u3) := rfl
@[go_sem] theorem U9.cell_u4 {w : World} {b o : Nat} {p : U9} (h : Fit w b o 9) : (put w b o p.enc).cell? ⟨b, o + 4, none⟩ = some (.int .u8 p.u4) := (put_cell (k := 4) h rfl (by decide)).trans rfl
@[go_sem] theorem U9.set_u4 {w : World} {b o : Nat} {p : U9} (h : Fit w b o 9) (x : Int) : (put w b o p.enc).setCell ⟨b, o + 4, none⟩ (.int .u8 x) = put w b o ({ p with u4 := x } : U9).enc := (put_setCell (k := 4) h rfl (by decide) _).trans rfl
@[go_sem ↓] theorem U9.get_u4 (p : U9) : p.enc.toArray[4]? = some (.int .u8 p.u4) := rfl
@[go_sem] theorem U9.at_u4 (p : U9) (h : 4 < p.enc.length) : p.enc[4] = .int .u8 p.u4 := rfl
@[go_sem ↓] theorem U9.lget_u4 (p : U9) : p.enc[4]? = some (.int .u8 p.u4) := rfl
@[go_sem] theorem U9.cell_u5 {w : World} {b o : Nat} {p : U9} (h : Fit w b o 9) : (put w b o p.enc).cell? ⟨b, o + 5, none⟩ = some (.int .u8 p.u5) := (put_cell (k := 5) h rfl (by decide)).trans rfl
@[go_sem] theorem U9.set_u5 {w : World} {b o : Nat} {p : U9} (h : Fit w b o 9) (x : Int) : (put w b o p.enc).setCell ⟨b, o + 5, none⟩ (.int .u8 x) = put w b o ({ p with u5 := x } : U9).enc := (put_setCell (k := 5) h rfl (by decide) _).trans rfl
@[go_sem ↓] theorem U9.get_u5 (p : U9) : p.enc.toArray[5]? = some (.int .u8 p.u5) := rfl
@[go_sem] theorem U9.at_u5 (p : U9) (h : 5 < p.enc.length) : p.enc[5] = .int .u8 p.u5 := rfl
@[go_sem ↓] theorem U9.lget_u5 (p : U9) : p.enc[5]? = some (.int .u8 p.u5) := rfl
@[go_sem] theorem U9.cell_u6 {w : World} {b o : Nat} {p : U9} (h : Fit w b o 9) : (put w b o p.enc).cell? ⟨b, o + 6, none⟩ = some (.int .u8 p.u6) := (put_cell (k := 6) h rfl (by decide)).trans rfl
@[go_sem] theorem U9.set_u6 {w : World} {b o : Nat} {p : U9} (h : Fit w b o 9) (x : Int) : (put w b o p.enc).setCell ⟨b, o + 6, none⟩ (.int .u8 x) = put w b o ({ p with u6 := x } : U9).enc := (put_setCell (k := 6) h rfl (by decide) _).trans rfl
@[go_sem ↓] theorem U9.get_u6 (p : U9) : p.enc.toArray[6]? = some (.int .u8 p.u6) := rfl
@[go_sem] theorem U9.at_u6 (p : U9) (h : 6 < p.enc.length) : p.enc[6] = .int .u8 p.u6 := rfl
@[go_sem ↓] theorem U9.lget_u6 (p : U9) : p.enc[6]? = some (.int .u8 p.u6) := rfl
@[go_sem] theorem U9.cell_u7 {w : World} {b o : Nat} {p : U9} (h : Fit w b o 9) : (put w b o p.enc).cell? ⟨b, o + 7, none⟩ = some (.int .u8 p.u7) := (put_cell (k := 7) h rfl (by decide)).trans rfl
@[go_sem] theorem U9.set_u7 {w : World} {b o : Nat} {p : U9} (h : Fit w b o 9) (x : Int) : (put w b o p.enc).setCell ⟨b, o + 7, none⟩ (.int .u8 x) = put w b o ({ p with u7 := x } : U9).enc := (put_setCell (k := 7) h rfl (by decide) _).trans rfl
@[go_sem ↓] theorem U9.get_u7 (p : U9) : p.enc.toArray[7]? = some (.int .u8 p.u7) := rfl
@[go_sem] theorem U9.at_u7 (p : U9) (h : 7 < p.enc.length) : p.enc[7] = .int .u8 p.u7 := rfl
@[go_sem ↓] theorem U9.lget_u7 (p : U9) : p.enc[7]? = some (.int .u8 p.u7) := rfl
@[go_sem] theorem U9.cell_u8 {w : World} {b o : Nat} {p : U9} (h : Fit w b o 9) : (put w b o p.enc).cell? ⟨b, o + 8, none⟩ = some (.int .u8 p.u8) := (put_cell (k := 8) h rfl (by decide)).trans rfl
@[go_sem] theorem U9.set_u8 {w : World} {b o : Nat} {p : U9} (h : Fit w b o 9) (x : Int) : (put w b o p.enc).setCell ⟨b, o + 8, none⟩ (.int .u8 x) = put w b o ({ p with u8 := x } : U9).enc := (put_setCell (k := 8) h rfl (by decide) _).trans rfl
@[go_sem ↓] theorem U9.get_u8 (p : U9) : p.enc.toArray[8]? = some (.int .u8 p.u8) := rfl
@[go_sem] theorem U9.at_u8 (p : U9) (h : 8 < p.enc.length) : p.enc[8] = .int .u8 p.u8 := rfl
@[go_sem ↓] theorem U9.lget_u8 (p : U9) : p.enc[8]? = some (.int .u8 p.u8) := rfl
@[go_sem] theorem U9.frozen {w : World} {b o k : Nat} {p : U9} (h : Fit w b o 9) : (put w b o p.enc).frozen? ⟨b, k, none⟩ = false := put_frozen h
@[go_sem ↓] theorem U9.rd {w : World} {b o : Nat} {p : U9} (h : Fit w b o 9) : rdCells (put w b o p.enc) ⟨b, o, none⟩ 0 9 = some p.enc := rdCells_put h rfl
@[go_sem ↓] theorem U9.wr {w : World} {b o : Nat} {p q : U9} (h : Fit w b o 9) : wrCells (put w b o p.enc) ⟨b, o, none⟩ 0 q.enc = some (put w b o q.enc) := wrCells_put h rfl rfl rfl
@[go_sem ↓] theorem U9.store (P : Program) (a : Addr) (q : U9) (w : World) : (storeCells a q.enc 0).run P w = (match wrCells w a 0 q.enc with | some w' => .ok () w' | none => storeSlow P a q.enc w) := store_wr P a q.enc w
@[ext] structure Sl9 where
  s0 : Ent
  s1 : Ent
  s2 : Ent
  s3 : Ent
  s4 : Ent
  s5 : Ent
  s6 : Ent
  s7 : Ent
  s8 : Ent
  deriving DecidableEq, Inhabited
def Sl9.zero : Sl9 := { s0 := Ent.zero, s1 := Ent.zero, s2 := Ent.zero, s3 := Ent.zero, s4 := Ent.zero, s5 := Ent.zero, s6 := Ent.zero, s7 := Ent.zero, s8 := Ent.zero }
/-- The cells of a Sl9. -/
def Sl9.enc (p : Sl9) : List Value := [.int .u8 p.s0.mac.b0, .int .u8 p.s0.mac.b1, .int .u8 p.s0.mac.b2, .int .u8 p.s0.mac.b3, .int .u8 p.s0.mac.b4, .int .u8 p.s0.mac.b5, .int .i64 p.s0.port, .int .u32 p.s0.ports, .int .i64 p.s0.age, .bool p.s0.static, .int .u8 p.s1.mac.b0, .int .u8 p.s1.mac.b1, .int .u8 p.s1.mac.b2, .int .u8 p.s1.mac.b3, .int .u8 p.s1.mac.b4, .int .u8 p.s1.mac.b5, .int .i64 p.s1.port, .int .u32 p.s1.ports, .int .i64 p.s1.age, .bool p.s1.static, .int .u8 p.s2.mac.b0, .int .u8 p.s2.mac.b1, .int .u8 p.s2.mac.b2, .int .u8 p.s2.mac.b3, .int .u8 p.s2.mac.b4, .int .u8 p.s2.mac.b5, .int .i64 p.s2.port, .int .u32 p.s2.ports, .int .i64 p.s2.age, .bool p.s2.static, .int .u8 p.s3.mac.b0, .int .u8 p.s3.mac.b1, .int .u8 p.s3.mac.b2, .int .u8 p.s3.mac.b3, .int .u8 p.s3.mac.b4, .int .u8 p.s3.mac.b5, .int .i64 p.s3.port, .int .u32 p.s3.ports, .int .i64 p.s3.age, .bool p.s3.static, .int .u8 p.s4.mac.b0, .int .u8 p.s4.mac.b1, .int .u8 p.s4.mac.b2, .int .u8 p.s4.mac.b3, .int .u8 p.s4.mac.b4, .int .u8 p.s4.mac.b5, .int .i64 p.s4.port, .int .u32 p.s4.ports, .int .i64 p.s4.age, .bool p.s4.static, .int .u8 p.s5.mac.b0, .int .u8 p.s5.mac.b1, .int .u8 p.s5.mac.b2, .int .u8 p.s5.mac.b3, .int .u8 p.s5.mac.b4, .int .u8 p.s5.mac.b5, .int .i64 p.s5.port, .int .u32 p.s5.ports, .int .i64 p.s5.age, .bool p.s5.static, .int .u8 p.s6.mac.b0, .int .u8 p.s6.mac.b1, .int .u8 p.s6.mac.b2, .int .u8 p.s6.mac.b3, .int .u8 p.s6.mac.b4, .int .u8 p.s6.mac.b5, .int .i64 p.s6.port, .int .u32 p.s6.ports, .int .i64 p.s6.age, .bool p.s6.static, .int .u8 p.s7.mac.b0, .int .u8 p.s7.mac.b1, .int .u8 p.s7.mac.b2, .int .u8 p.s7.mac.b3, .int .u8 p.s7.mac.b4, .int .u8 p.s7.mac.b5, .int .i64 p.s7.port, .int .u32 p.s7.ports, .int .i64 p.s7.age, .bool p.s7.static, .int .u8 p.s8.mac.b0, .int .u8 p.s8.mac.b1, .int .u8 p.s8.mac.b2, .int .u8 p.s8.mac.b3, .int .u8 p.s8.mac.b4, .int .u8 p.s8.mac.b5, .int .i64 p.s8.port, .int .u32 p.s8.ports, .int .i64 p.s8.age, .bool p.s8.static]
theorem Sl9.zero_lit : #[(Value.int .u8 0), (Value.int .u8 0), (Value.int .u8 0), (Value.int .u8 0), (Value.int .u8 0), (Value.int .u8 0), (Value.int .i64 0), (Value.int .u32 0), (Value.int .i64 0), (Value.bool false), (Value.int .u8 0), (Value.int .u8 0), (Value.int .u8 0), (Value.int .u8 0), (Value.int .u8 0), (Value.int .u8 0), (Value.int .i64 0), (Value.int .u32 0), (Value.int .i64 0), (Value.bool false), (Value.int .u8 0), (Value.int .u8 0), (Value.int .u8 0), (Value.int .u8 0), (Value.int .u8 0), (Value.int .u8 0), (Value.int .i64 0), (Value.int .u32 0), (Value.int .i64 0), (Value.bool false), (Value.int .u8 0), (Value.int .u8 0), (Value.int .u8 0), (Value.int .u8 0), (Value.int .u8 0), (Value.int .u8 0), (Value.int .i64 0), (Value.int .u32 0), (Value.int .i64 0), (Value.bool false), (Value.int .u8 0), (Value.int .u8 0), (Value.int .u8 0), (Value.int .u8 0), (Value.int .u8 0), (Value.int .u8 0), (Value.int .i64 0), (Value.int .u32 0), (Value.int .i64 0), (Value.bool false), (Value.int .u8 0), (Value.int .u8 0), (Value.int .u8 0), (Value.int .u8 0), (Value.int .u8 0), (Value.int .u8 0), (Value.int .i64 0), (Value.int .u32 0), (Value.int .i64 0), (Value.bool false), (Value.int .u8 0), (Value.int .u8 0), (Value.int .u8 0), (Value.int .u8 0), (Value.int .u8 0), (Value.int .u8 0), (Value.int .i64 0), (Value.int .u32 0), (Value.int .i64 0), (Value.bool false), (Value.int .u8 0), (Value.int .u8 0), (Value.int .u8 0), (Value.int .u8 0), (Value.int .u8 0), (Value.int .u8 0), (Value.int .i64 0), (Value.int .u32 0), (Value.int .i64 0), (Value.bool false), (Value.int .u8 0), (Value.int .u8 0), (Value.int .u8 0), (Value.int .u8 0), (Value.int .u8 0), (Value.int .u8 0), (Value.int .i64 0), (Value.int .u32 0), (Value.int .i64 0), (Value.bool false)] = Sl9.zero.enc.toArray := rfl
@[simp, go_sem] theorem Sl9.length_enc (p : Sl9) : p.enc.length = 90 := rfl
@[simp, go_sem] theorem Sl9.size_enc (p : Sl9) : p.enc.toArray.size = 90 := rfl
@[simp, go_sem] theorem Sl9.tk (p : Sl9) : p.enc.take 90 = p.enc := rfl
theorem Sl9.one (p : Sl9) : p.enc.all Value.oneCell' = true := rfl
@[go_sem] theorem Sl9.cell_s0_mac_b0 {w : World} {b o : Nat} {p : Sl9} (h : Fit w b o 90) : (put w b o p.enc).cell? ⟨b, o, none⟩ = some (.int .u8 p.s0.mac.b0) := (put_cell (k := 0) h rfl (by decide)).trans rfl
@[go_sem] theorem Sl9.set_s0_mac_b0 {w : World} {b o : Nat} {p : Sl9} (h : Fit w b o 90) (x : Int) : (put w b o p.enc).setCell ⟨b, o, none⟩ (.int .u8 x) = put w b o ({ p with s0 := { p.s0 with mac := { p.s0.mac with b0 := x } } } : Sl9).enc := (put_setCell (k := 0) h rfl (by decide) _).trans rfl
@[go_sem ↓] theorem Sl9.get_s0_mac_b0 (p : Sl9) : p.enc.toArray[0]? = some (.int .u8 p.s0.mac.b0) := rfl
@[go_sem] theorem Sl9.at_s0_mac_b0 (p : Sl9) (h : 0 < p.enc.length) : p.enc[0] = .int .u8 p.s0.mac.b0 := rfl
@[go_sem ↓] theorem Sl9.lget_s0_mac_b0 (p : Sl9) : p.enc[0]? = some (.int .u8 p.s0.mac.b0) := rfl
@[go_sem] theorem Sl9.cell_s0_mac_b1 {w : World} {b o : Nat} {p : Sl9} (h : Fit w b o 90) : (put w b o p.enc).cell? ⟨b, o + 1, none⟩ = some (.int .u8 p.s0.mac.b1) := (put_cell (k := 1) h rfl (by decide)).trans rfl
@[go_sem] theorem Sl9.set_s0_mac_b1 {w : World} {b o : Nat} {p : Sl9} (h : Fit w b o 90) (x : Int) : (put w b o p.enc).setCell ⟨b, o + 1, none⟩ (.int .u8 x) = put w b o ({ p with s0 := { p.s0 with mac := { p.s0.mac with b1 := x } } } : Sl9).enc := (put_setCell (k := 1) h rfl (by decide) _).trans rfl
@[go_sem ↓] theorem Sl9.get_s0_mac_b1 (p : Sl9) : p.enc.toArray[1]? = some (.int .u8 p.s0.mac.b1) := rfl
@[go_sem] theorem Sl9.at_s0_mac_b1 (p : Sl9) (h : 1 < p.enc.length) : p.enc[1] = .int .u8 p.s0.mac.b1 := rfl
@[go_sem ↓] theorem Sl9.lget_s0_mac_b1 (p : Sl9) : p.enc[1]? = some (.int .u8 p.s0.mac.b1) := rfl
@[go_sem] theorem Sl9.cell_s0_mac_b2 {w : World} {b o : Nat} {p : Sl9} (h : Fit w b o 90) : (put w b o p.enc).cell? ⟨b, o + 2, none⟩ = some (.int .u8 p.s0.mac.b2) := (put_cell (k := 2) h rfl (by decide)).trans rfl
@[go_sem] theorem Sl9.set_s0_mac_b2 {w : World} {b o : Nat} {p : Sl9} (h : Fit w b o 90) (x : Int) : (put w b o p.enc).setCell ⟨b, o + 2, none⟩ (.int .u8 x) = put w b o ({ p with s0 := { p.s0 with mac := { p.s0.mac with b2 := x } } } : Sl9).enc := (put_setCell (k := 2) h rfl (by decide) _).trans rfl
@[go_sem ↓] theorem Sl9.get_s0_mac_b2 (p : Sl9) : p.enc.toArray[2]? = some (.int .u8 p.s0.mac.b2) := rfl
@[go_sem] theorem Sl9.at_s0_mac_b2 (p : Sl9) (h : 2 < p.enc.length) : p.enc[2] = .int .u8 p.s0.mac.b2 := rfl
@[go_sem ↓] theorem Sl9.lget_s0_mac_b2 (p : Sl9) : p.enc[2]? = some (.int .u8 p.s0.mac.b2) := rfl
@[go_sem] theorem Sl9.cell_s0_mac_b3 {w : World} {b o : Nat} {p : Sl9} (h : Fit w b o 90) : (put w b o p.enc).cell? ⟨b, o + 3, none⟩ = some (.int .u8 p.s0.mac.b3) := (put_cell (k := 3) h rfl (by decide)).trans rfl
@[go_sem] theorem Sl9.set_s0_mac_b3 {w : World} {b o : Nat} {p : Sl9} (h : Fit w b o 90) (x : Int) : (put w b o p.enc).setCell ⟨b, o + 3, none⟩ (.int .u8 x) = put w b o ({ p with s0 := { p.s0 with mac := { p.s0.mac with b3 := x } } } : Sl9).enc := (put_setCell (k := 3) h rfl (by decide) _).trans rfl
@[go_sem ↓] theorem Sl9.get_s0_mac_b3 (p : Sl9) : p.enc.toArray[3]? = some (.int .u8 p.s0.mac.b3) := rfl
@[go_sem] theorem Sl9.at_s0_mac_b3 (p : Sl9) (h : 3 < p.enc.length) : p.enc[3] = .int .u8 p.s0.mac.b3 := rfl
@[go_sem ↓] theorem Sl9.lget_s0_mac_b3 (p : Sl9) : p.enc[3]? = some (.int .u8 p.s0.mac.b3) := rfl
@[go_sem] theorem Sl9.cell_s0_mac_b4 {w : World} {b o : Nat} {p : Sl9} (h : Fit w b o 90) : (put w b o p.enc).cell? ⟨b, o + 4, none⟩ = some (.int .u8 p.s0.mac.b4) := (put_cell (k := 4) h rfl (by decide)).trans rfl
@[go_sem] theorem Sl9.set_s0_mac_b4 {w : World} {b o : Nat} {p : Sl9} (h : Fit w b o 90) (x : Int) : (put w b o p.enc).setCell ⟨b, o + 4, none⟩ (.int .u8 x) = put w b o ({ p with s0 := { p.s0 with mac := { p.s0.mac with b4 := x } } } : Sl9).enc := (put_setCell (k := 4) h rfl (by decide) _).trans rfl
@[go_sem ↓] theorem Sl9.get_s0_mac_b4 (p : Sl9) : p.enc.toArray[4]? = some (.int .u8 p.s0.mac.b4) := rfl
@[go_sem] theorem Sl9.at_s0_mac_b4 (p : Sl9) (h : 4 < p.enc.length) : p.enc[4] = .int .u8 p.s0.mac.b4 := rfl
@[go_sem ↓] theorem Sl9.lget_s0_mac_b4 (p : Sl9) : p.enc[4]? = some (.int .u8 p.s0.mac.b4) := rfl
@[go_sem] theorem Sl9.cell_s0_mac_b5 {w : World} {b o : Nat} {p : Sl9} (h : Fit w b o 90) : (put w b o p.enc).cell? ⟨b, o + 5, none⟩ = some (.int .u8 p.s0.mac.b5) := (put_cell (k := 5) h rfl (by decide)).trans rfl
@[go_sem] theorem Sl9.set_s0_mac_b5 {w : World} {b o : Nat} {p : Sl9} (h : Fit w b o 90) (x : Int) : (put w b o p.enc).setCell ⟨b, o + 5, none⟩ (.int .u8 x) = put w b o ({ p with s0 := { p.s0 with mac := { p.s0.mac with b5 := x } } } : Sl9).enc := (put_setCell (k := 5) h rfl (by decide) _).trans rfl
@[go_sem ↓] theorem Sl9.get_s0_mac_b5 (p : Sl9) : p.enc.toArray[5]? = some (.int .u8 p.s0.mac.b5) := rfl
@[go_sem] theorem Sl9.at_s0_mac_b5 (p : Sl9) (h : 5 < p.enc.length) : p.enc[5] = .int .u8 p.s0.mac.b5 := rfl
@[go_sem ↓] theorem Sl9.lget_s0_mac_b5 (p : Sl9) : p.enc[5]? = some (.int .u8 p.s0.mac.b5) := rfl
@[go_sem] theorem Sl9.cell_s0_port {w : World} {b o : Nat} {p : Sl9} (h : Fit w b o 90) : (put w b o p.enc).cell? ⟨b, o + 6, none⟩ = some (.int .i64 p.s0.port) := (put_cell (k := 6) h rfl (by decide)).trans rfl
@[go_sem] theorem Sl9.set_s0_port {w : World} {b o : Nat} {p : Sl9} (h : Fit w b o 90) (x : Int) : (put w b o p.enc).setCell ⟨b, o + 6, none⟩ (.int .i64 x) = put w b o ({ p with s0 := { p.s0 with port := x } } : Sl9).enc := (put_setCell (k := 6) h rfl (by decide) _).trans rfl
@[go_sem ↓] theorem Sl9.get_s0_port (p : Sl9) : p.enc.toArray[6]? = some (.int .i64 p.s0.port) := rfl
@[go_sem] theorem Sl9.at_s0_port (p : Sl9) (h : 6 < p.enc.length) : p.enc[6] = .int .i64 p.s0.port := rfl
@[go_sem ↓] theorem Sl9.lget_s0_port (p : Sl9) : p.enc[6]? = some (.int .i64 p.s0.port) := rfl
@[go_sem] theorem Sl9.cell_s0_ports {w : World} {b o : Nat} {p : Sl9} (h : Fit w b o 90) : (put w b o p.enc).cell? ⟨b, o + 7, none⟩ = some (.int .u32 p.s0.ports) := (put_cell (k := 7) h rfl (by decide)).trans rfl
@[go_sem] theorem Sl9.set_s0_ports {w : World} {b o : Nat} {p : Sl9} (h : Fit w b o 90) (x : Int) : (put w b o p.enc).setCell ⟨b, o + 7, none⟩ (.int .u32 x) = put w b o ({ p with s0 := { p.s0 with ports := x } } : Sl9).enc := (put_setCell (k := 7) h rfl (by decide) _).trans rfl
@[go_sem ↓] theorem Sl9.get_s0_ports (p : Sl9) : p.enc.toArray[7]? = some (.int .u32 p.s0.ports) := rfl
@[go_sem] theorem Sl9.at_s0_ports (p : Sl9) (h : 7 < p.enc.length) : p.enc[7] = .int .u32 p.s0.ports := rfl
@[go_sem ↓] theorem Sl9.lget_s0_ports (p : Sl9) : p.enc[7]? = some (.int .u32 p.s0.ports) := rfl
@[go_sem] theorem Sl9.cell_s0_age {w : World} {b o : Nat} {p : Sl9} (h : Fit w b o 90) : (put w b o p.enc).cell? ⟨b, o + 8, none⟩ = some (.int .i64 p.s0.age) := (put_cell (k := 8) h rfl (by decide)).trans rfl
@[go_sem] theorem Sl9.set_s0_age {w : World} {b o : Nat} {p : Sl9} (h : Fit w b o 90) (x : Int) : (put w b o p.enc).setCell ⟨b, o + 8, none⟩ (.int .i64 x) = put w b o ({ p with s0 := { p.s0 with age := x } } : Sl9).enc := (put_setCell (k := 8) h rfl (by decide) _).trans rfl
@[go_sem ↓] theorem Sl9.get_s0_age (p : Sl9) : p.enc.toArray[8]? = some (.int .i64 p.s0.age) := rfl
@[go_sem] theorem Sl9.at_s0_age (p : Sl9) (h : 8 < p.enc.length) : p.enc[8] = .int .i64 p.s0.age := rfl
@[go_sem ↓] theorem Sl9.lget_s0_age (p : Sl9) : p.enc[8]? = some (.int .i64 p.s0.age) := rfl
@[go_sem] theorem Sl9.cell_s0_static {w : World} {b o : Nat} {p : Sl9} (h : Fit w b o 90) : (put w b o p.enc).cell? ⟨b, o + 9, none⟩ = some (.bool p.s0.static) := (put_cell (k := 9) h rfl (by decide)).trans rfl
@[go_sem] theorem Sl9.set_s0_static {w : World} {b o : Nat} {p : Sl9} (h : Fit w b o 90) (x : Bool) : (put w b o p.enc).setCell ⟨b, o + 9, none⟩ (.bool x) = put w b o ({ p with s0 := { p.s0 with static := x } } : Sl9).enc := (put_setCell (k := 9) h rfl (by decide) _).trans rfl
@[go_sem ↓] theorem Sl9.get_s0_static (p : Sl9) : p.enc.toArray[9]? = some (.bool p.s0.static) := rfl
@[go_sem] theorem Sl9.at_s0_static (p : Sl9) (h : 9 < p.enc.length) : p.enc[9] = .bool p.s0.static := rfl
@[go_sem ↓] theorem Sl9.lget_s0_static (p : Sl9) : p.enc[9]? = some (.bool p.s0.static) := rfl
@[go_sem] theorem Sl9.cell_s1_mac_b0 {w : World} {b o : Nat} {p : Sl9} (h : Fit w b o 90) : (put w b o p.enc).cell? ⟨b, o + 10, none⟩ = some (.int .u8 p.s1.mac.b0) := (put_cell (k := 10) h rfl (by decide)).trans rfl
@[go_sem] theorem Sl9.set_s1_mac_b0 {w : World} {b o : Nat} {p : Sl9} (h : Fit w b o 90) (x : Int) : (put w b o p.enc).setCell ⟨b, o + 10, none⟩ (.int .u8 x) = put w b o ({ p with s1 := { p.s1 with mac := { p.s1.mac with b0 := x } } } : Sl9).enc := (put_setCell (k := 10) h rfl (by decide) _).trans rfl
@[go_sem ↓] theorem Sl9.get_s1_mac_b0 (p : Sl9) : p.enc.toArray[10]? = some (.int .u8 p.s1.mac.b0) := rfl
@[go_sem] theorem Sl9.at_s1_mac_b0 (p : Sl9) (h : 10 < p.enc.length) : p.enc[10] = .int .u8 p.s1.mac.b0 := rfl
@[go_sem ↓] theorem Sl9.lget_s1_mac_b0 (p : Sl9) : p.enc[10]? = some (.int .u8 p.s1.mac.b0) := rfl
@[go_sem] theorem Sl9.cell_s1_mac_b1 {w : World} {b o : Nat} {p : Sl9} (h : Fit w b o 90) : (put w b o p.enc).cell? ⟨b, o + 11, none⟩ = some (.int .u8 p.s1.mac.b1) := (put_cell (k := 11) h rfl (by decide)).trans rfl
@[go_sem] theorem Sl9.set_s1_mac_b1 {w : World} {b o : Nat} {p : Sl9} (h : Fit w b o 90) (x : Int) : (put w b o p.enc).setCell ⟨b, o + 11, none⟩ (.int .u8 x) = put w b o ({ p with s1 := { p.s1 with mac := { p.s1.mac with b1 := x } } } : Sl9).enc := (put_setCell (k := 11) h rfl (by decide) _).trans rfl
@[go_sem ↓] theorem Sl9.get_s1_mac_b1 (p : Sl9) : p.enc.toArray[11]? = some (.int .u8 p.s1.mac.b1) := rfl
@[go_sem] theorem Sl9.at_s1_mac_b1 (p : Sl9) (h : 11 < p.enc.length) : p.enc[11] = .int .u8 p.s1.mac.b1 := rfl
@[go_sem ↓] theorem Sl9.lget_s1_mac_b1 (p : Sl9) : p.enc[11]? = some (.int .u8 p.s1.mac.b1) := rfl
@[go_sem] theorem Sl9.cell_s1_mac_b2 {w : World} {b o : Nat} {p : Sl9} (h : Fit w b o 90) : (put w b o p.enc).cell? ⟨b, o + 12, none⟩ = some (.int .u8 p.s1.mac.b2) := (put_cell (k := 12) h rfl (by decide)).trans rfl
@[go_sem] theorem Sl9.set_s1_mac_b2 {w : World} {b o : Nat} {p : Sl9} (h : Fit w b o 90) (x : Int) : (put w b o p.enc).setCell ⟨b, o + 12, none⟩ (.int .u8 x) = put w b o ({ p with s1 := { p.s1 with mac := { p.s1.mac with b2 := x } } } : Sl9).enc := (put_setCell (k := 12) h rfl (by decide) _).trans rfl
@[go_sem ↓] theorem Sl9.get_s1_mac_b2 (p : Sl9) : p.enc.toArray[12]? = some (.int .u8 p.s1.mac.b2) := rfl
@[go_sem] theorem Sl9.at_s1_mac_b2 (p : Sl9) (h : 12 < p.enc.length) : p.enc[12] = .int .u8 p.s1.mac.b2 := rfl
@[go_sem ↓] theorem Sl9.lget_s1_mac_b2 (p : Sl9) : p.enc[12]? = some (.int .u8 p.s1.mac.b2) := rfl
@[go_sem] theorem Sl9.cell_s1_mac_b3 {w : World} {b o : Nat} {p : Sl9} (h : Fit w b o 90) : (put w b o p.enc).cell? ⟨b, o + 13, none⟩ = some (.int .u8 p.s1.mac.b3) := (put_cell (k := 13) h rfl (by decide)).trans rfl
@[go_sem] theorem Sl9.set_s1_mac_b3 {w : World} {b o : Nat} {p : Sl9} (h : Fit w b o 90) (x : Int) : (put w b o p.enc).setCell ⟨b, o + 13, none⟩ (.int .u8 x) = put w b o ({ p with s1 := { p.s1 with mac := { p.s1.mac with b3 := x } } } : Sl9).enc := (put_setCell (k := 13) h rfl (by decide) _).trans rfl
@[go_sem ↓] theorem Sl9.get_s1_mac_b3 (p : Sl9) : p.enc.toArray[13]? = some (.int .u8 p.s1.mac.b3) := rfl
@[go_sem] theorem Sl9.at_s1_mac_b3 (p : Sl9) (h : 13 < p.enc.length) : p.enc[13] = .int .u8 p.s1.mac.b3 := rfl
@[go_sem ↓] theorem Sl9.lget_s1_mac_b3 (p : Sl9) : p.enc[13]? = some (.int .u8 p.s1.mac.b3) := rfl
@[go_sem] theorem Sl9.cell_s1_mac_b4 {w : World} {b o : Nat} {p : Sl9} (h : Fit w b o 90) : (put w b o p.enc).cell? ⟨b, o + 14, none⟩ = some (.int .u8 p.s1.mac.b4) := (put_cell (k := 14) h rfl (by decide)).trans rfl
@[go_sem] theorem Sl9.set_s1_mac_b4 {w : World} {b o : Nat} {p : Sl9} (h : Fit w b o 90) (x : Int) : (put w b o p.enc).setCell ⟨b, o + 14, none⟩ (.int .u8 x) = put w b o ({ p with s1 := { p.s1 with mac := { p.s1.mac with b4 := x } } } : Sl9).enc := (put_setCell (k := 14) h rfl (by decide) _).trans rfl
@[go_sem ↓] theorem Sl9.get_s1_mac_b4 (p : Sl9) : p.enc.toArray[14]? = some (.int .u8 p.s1.mac.b4) := rfl
@[go_sem] theorem Sl9.at_s1_mac_b4 (p : Sl9) (h : 14 < p.enc.length) : p.enc[14] = .int .u8 p.s1.mac.b4 := rfl
@[go_sem ↓] theorem Sl9.lget_s1_mac_b4 (p : Sl9) : p.enc[14]? = some (.int .u8 p.s1.mac.b4) := rfl
@[go_sem] theorem Sl9.cell_s1_mac_b5 {w : World} {b o : Nat} {p : Sl9} (h : Fit w b o 90) : (put w b o p.enc).cell? ⟨b, o + 15, none⟩ = some (.int .u8 p.s1.mac.b5) := (put_cell (k := 15) h rfl (by decide)).trans rfl
@[go_sem] theorem Sl9.set_s1_mac_b5 {w : World} {b o : Nat} {p : Sl9} (h : Fit w b o 90) (x : Int) : (put w b o p.enc).setCell ⟨b, o + 15, none⟩ (.int .u8 x) = put w b o ({ p with s1 := { p.s1 with mac := { p.s1.mac with b5 := x } } } : Sl9).enc := (put_setCell (k := 15) h rfl (by decide) _).trans rfl
@[go_sem ↓] theorem Sl9.get_s1_mac_b5 (p : Sl9) : p.enc.toArray[15]? = some (.int .u8 p.s1.mac.b5) := rfl
@[go_sem] theorem Sl9.at_s1_mac_b5 (p : Sl9) (h : 15 < p.enc.length) : p.enc[15] = .int .u8 p.s1.mac.b5 := rfl
@[go_sem ↓] theorem Sl9.lget_s1_mac_b5 (p : Sl9) : p.enc[15]? = some (.int .u8 p.s1.mac.b5) := rfl
@[go_sem] theorem Sl9.cell_s1_port {w : World} {b o : Nat} {p : Sl9} (h : Fit w b o 90) : (put w b o p.enc).cell? ⟨b, o + 16, none⟩ = some (.int .i64 p.s1.port) := (put_cell (k := 16) h rfl (by decide)).trans rfl
@[go_sem] theorem Sl9.set_s1_port {w : World} {b o : Nat} {p : Sl9} (h : Fit w b o 90) (x : Int) : (put w b o p.enc).setCell ⟨b, o + 16, none⟩ (.int .i64 x) = put w b o ({ p with s1 := { p.s1 with port := x } } : Sl9).enc := (put_setCell (k := 16) h rfl (by decide) _).trans rfl
@[go_sem ↓] theorem Sl9.get_s1_port (p : Sl9) : p.enc.toArray[16]? = some (.int .i64 p.s1.port) := rfl
@[go_sem] theorem Sl9.at_s1_port (p : Sl9) (h : 16 < p.enc.length) : p.enc[16] = .int .i64 p.s1.port := rfl
@[go_sem ↓] theorem Sl9.lget_s1_port (p : Sl9) : p.enc[16]? = some (.int .i64 p.s1.port) := rfl
@[go_sem] theorem Sl9.cell_s1_ports {w : World} {b o : Nat} {p : Sl9} (h : Fit w b o 90) : (put w b o p.enc).cell? ⟨b, o + 17, none⟩ = some (.int .u32 p.s1.ports) := (put_cell (k := 17) h rfl (by decide)).trans rfl
@[go_sem] theorem Sl9.set_s1_ports {w : World} {b o : Nat} {p : Sl9} (h : Fit w b o 90) (x : Int) : (put w b o p.enc).setCell ⟨b, o + 17, none⟩ (.int .u32 x) = put w b o ({ p with s1 := { p.s1 with ports := x } } : Sl9).enc := (put_setCell (k := 17) h rfl (by decide) _).trans rfl
@[go_sem ↓] theorem Sl9.get_s1_ports (p : Sl9) : p.enc.toArray[17]? = some (.int .u32 p.s1.ports) := rfl
@[go_sem] theorem Sl9.at_s1_ports (p : Sl9) (h : 17 < p.enc.length) : p.enc[17] = .int .u32 p.s1.ports := rfl
@[go_sem ↓] theorem Sl9.lget_s1_ports (p : Sl9) : p.enc[17]? = some (.int .u32 p.s1.ports) := rfl
@[go_sem] theorem Sl9.cell_s1_age {w : World} {b o : Nat} {p : Sl9} (h : Fit w b o 90) : (put w b o p.enc).cell? ⟨b, o + 18, none⟩ = some (.int .i64 p.s1.age) := (put_cell (k := 18) h rfl (by decide)).trans rfl
@[go_sem] theorem Sl9.set_s1_age {w : World} {b o : Nat} {p : Sl9} (h : Fit w b o 90) (x : Int) : (put w b o p.enc).setCell ⟨b, o + 18, none⟩ (.int .i64 x) = put w b o ({ p with s1 := { p.s1 with age := x } } : Sl9).enc := (put_setCell (k := 18) h rfl (by decide) _).trans rfl
@[go_sem ↓] theorem Sl9.get_s1_age (p : Sl9) : p.enc.toArray[18]? = some (.int .i64 p.s1.age) := rfl
@[go_sem] theorem Sl9.at_s1_age (p : Sl9) (h : 18 < p.enc.length) : p.enc[18] = .int .i64 p.s1.age := rfl
@[go_sem ↓] theorem Sl9.lget_s1_age (p : Sl9) : p.enc[18]? = some (.int .i64 p.s1.age) := rfl
@[go_sem] theorem Sl9.cell_s1_static {w : World} {b o : Nat} {p : Sl9} (h : Fit w b o 90) : (put w b o p.enc).cell? ⟨b, o + 19, none⟩ = some (.bool p.s1.static) := (put_cell (k := 19) h rfl (by decide)).trans rfl
@[go_sem] theorem Sl9.set_s1_static {w : World} {b o : Nat} {p : Sl9} (h : Fit w b o 90) (x : Bool) : (put w b o p.enc).setCell ⟨b, o + 19, none⟩ (.bool x) = put w b o ({ p with s1 := { p.s1 with static := x } } : Sl9).enc := (put_setCell (k := 19) h rfl (by decide) _).trans rfl
@[go_sem ↓] theorem Sl9.get_s1_static (p : Sl9) : p.enc.toArray[19]? = some (.bool p.s1.static) := rfl
@[go_sem] theorem Sl9.at_s1_static (p : Sl9) (h : 19 < p.enc.length) : p.enc[19] = .bool p.s1.static := rfl
@[go_sem ↓] theorem Sl9.lget_s1_static (p : Sl9) : p.enc[19]? = some (.bool p.s1.static) := rfl
@[go_sem] theorem Sl9.cell_s2_mac_b0 {w : World} {b o : Nat} {p : Sl9} (h : Fit w b o 90) : (put w b o p.enc).cell? ⟨b, o + 20, none⟩ = some (.int .u8 p.s2.mac.b0) := (put_cell (k := 20) h rfl (by decide)).trans rfl
@[go_sem] theorem Sl9.set_s2_mac_b0 {w : World} {b o : Nat} {p : Sl9} (h : Fit w b o 90) (x : Int) : (put w b o p.enc).setCell ⟨b, o + 20, none⟩ (.int .u8 x) = put w b o ({ p with s2 := { p.s2 with mac := { p.s2.mac with b0 := x } } } : Sl9).enc := (put_setCell (k := 20) h rfl (by decide) _).trans rfl
@[go_sem ↓] theorem Sl9.get_s2_mac_b0 (p : Sl9) : p.enc.toArray[20]? = some (.int .u8 p.s2.mac.b0) := rfl
@[go_sem] theorem Sl9.at_s2_mac_b0 (p : Sl9) (h : 20 < p.enc.length) : p.enc[20] = .int .u8 p.s2.mac.b0 := rfl
@[go_sem ↓] theorem Sl9.lget_s2_mac_b0 (p : Sl9) : p.enc[20]? = some (.int .u8 p.s2.mac.b0) := rfl
@[go_sem] theorem Sl9.cell_s2_mac_b1 {w : World} {b o : Nat} {p : Sl9} (h : Fit w b o 90) : (put w b o p.enc).cell? ⟨b, o + 21, none⟩ = some (.int .u8 p.s2.mac.b1) := (put_cell (k := 21) h rfl (by decide)).trans rfl
@[go_sem] theorem Sl9.set_s2_mac_b1 {w : World} {b o : Nat} {p : Sl9} (h : Fit w b o 90) (x : Int) : (put w b o p.enc).setCell ⟨b, o + 21, none⟩ (.int .u8 x) = put w b o ({ p with s2 := { p.s2 with mac := { p.s2.mac with b1 := x } } } : Sl9).enc := (put_setCell (k := 21) h rfl (by decide) _).trans rfl
@[go_sem ↓] theorem Sl9.get_s2_mac_b1 (p : Sl9) : p.enc.toArray[21]? = some (.int .u8 p.s2.mac.b1) := rfl
@[go_sem] theorem Sl9.at_s2_mac_b1 (p : Sl9) (h : 21 < p.enc.length) : p.enc[21] = .int .u8 p.s2.mac.b1 := rfl
@[go_sem ↓] theorem Sl9.lget_s2_mac_b1 (p : Sl9) : p.enc[21]? = some (.int .u8 p.s2.mac.b1) := rfl
@[go_sem] theorem Sl9.cell_s2_mac_b2 {w : World} {b o : Nat} {p : Sl9} (h : Fit w b o 90) : (put w b o p.enc).cell? ⟨b, o + 22, none⟩ = some (.int .u8 p.s2.mac.b2) := (put_cell (k := 22) h rfl (by decide)).trans rfl
@[go_sem] theorem Sl9.set_s2_mac_b2 {w : World} {b o : Nat} {p : Sl9} (h : Fit w b o 90) (x : Int) : (put w b o p.enc).setCell ⟨b, o + 22, none⟩ (.int .u8 x) = put w b o ({ p with s2 := { p.s2 with mac := { p.s2.mac with b2 := x } } } : Sl9).enc := (put_setCell (k := 22) h rfl (by decide) _).trans rfl
@[go_sem ↓] theorem Sl9.get_s2_mac_b2 (p : Sl9) : p.enc.toArray[22]? = some (.int .u8 p.s2.mac.b2) := rfl
@[go_sem] theorem Sl9.at_s2_mac_b2 (p : Sl9) (h : 22 < p.enc.length) : p.enc[22] = .int .u8 p.s2.mac.b2 := rfl
@[go_sem ↓] theorem Sl9.lget_s2_mac_b2 (p : Sl9) : p.enc[22]? = some (.int .u8 p.s2.mac.b2) := rfl
@[go_sem] theorem Sl9.cell_s2_mac_b3 {w : World} {b o : Nat} {p : Sl9} (h : Fit w b o 90) : (put w b o p.enc).cell? ⟨b, o + 23, none⟩ = some (.int .u8 p.s2.mac.b3) := (put_cell (k := 23) h rfl (by decide)).trans rfl
@[go_sem] theorem Sl9.set_s2_mac_b3 {w : World} {b o : Nat} {p : Sl9} (h : Fit w b o 90) (x : Int) : (put w b o p.enc).setCell ⟨b, o + 23, none⟩ (.int .u8 x) = put w b o ({ p with s2 := { p.s2 with mac := { p.s2.mac with b3 := x } } } : Sl9).enc := (put_setCell (k := 23) h rfl (by decide) _).trans rfl
@[go_sem ↓] theorem Sl9.get_s2_mac_b3 (p : Sl9) : p.enc.toArray[23]? = some (.int .u8 p.s2.mac.b3) := rfl
@[go_sem] theorem Sl9.at_s2_mac_b3 (p : Sl9) (h : 23 < p.enc.length) : p.enc[23] = .int .u8 p.s2.mac.b3 := rfl
@[go_sem ↓] theorem Sl9.lget_s2_mac_b3 (p : Sl9) : p.enc[23]? = some (.int .u8 p.s2.mac.b3) := rfl
@[go_sem] theorem Sl9.cell_s2_mac_b4 {w : World} {b o : Nat} {p : Sl9} (h : Fit w b o 90) : (put w b o p.enc).cell? ⟨b, o + 24, none⟩ = some (.int .u8 p.s2.mac.b4) := (put_cell (k := 24) h rfl (by decide)).trans rfl
@[go_sem] theorem Sl9.set_s2_mac_b4 {w : World} {b o : Nat} {p : Sl9} (h : Fit w b o 90) (x : Int) : (put w b o p.enc).setCell ⟨b, o + 24, none⟩ (.int .u8 x) = put w b o ({ p with s2 := { p.s2 with mac := { p.s2.mac with b4 := x } } } : Sl9).enc := (put_setCell (k := 24) h rfl (by decide) _).trans rfl
@[go_sem ↓] theorem Sl9.get_s2_mac_b4 (p : Sl9) : p.enc.toArray[24]? = some (.int .u8 p.s2.mac.b4) := rfl
@[go_sem] theorem Sl9.at_s2_mac_b4 (p : Sl9) (h : 24 < p.enc.length) : p.enc[24] = .int .u8 p.s2.mac.b4 := rfl
@[go_sem ↓] theorem Sl9.lget_s2_mac_b4 (p : Sl9) : p.enc[24]? = some (.int .u8 p.s2.mac.b4) := rfl
@[go_sem] theorem Sl9.cell_s2_mac_b5 {w : World} {b o : Nat} {p : Sl9} (h : Fit w b o 90) : (put w b o p.enc).cell? ⟨b, o + 25, none⟩ = some (.int .u8 p.s2.mac.b5) := (put_cell (k := 25) h rfl (by decide)).trans rfl
@[go_sem] theorem Sl9.set_s2_mac_b5 {w : World} {b o : Nat} {p : Sl9} (h : Fit w b o 90) (x : Int) : (put w b o p.enc).setCell ⟨b, o + 25, none⟩ (.int .u8 x) = put w b o ({ p with s2 := { p.s2 with mac := { p.s2.mac with b5 := x } } } : Sl9).enc := (put_setCell (k := 25) h rfl (by decide) _).trans rfl
@[go_sem ↓] theorem Sl9.get_s2_mac_b5 (p : Sl9) : p.enc.toArray[25]? = some (.int .u8 p.s2.mac.b5) := rfl
@[go_sem] theorem Sl9.at_s2_mac_b5 (p : Sl9) (h : 25 < p.enc.length) : p.enc[25] = .int .u8 p.s2.mac.b5 := rfl
@[go_sem ↓] theorem Sl9.lget_s2_mac_b5 (p : Sl9) : p.enc[25]? = some (.int .u8 p.s2.mac.b5) := rfl
@[go_sem] theorem Sl9.cell_s2_port {w : World} {b o : Nat} {p : Sl9} (h : Fit w b o 90) : (put w b o p.enc).cell? ⟨b, o + 26, none⟩ = some (.int .i64 p.s2.port) := (put_cell (k := 26) h rfl (by decide)).trans rfl
@[go_sem] theorem Sl9.set_s2_port {w : World} {b o : Nat} {p : Sl9} (h : Fit w b o 90) (x : Int) : (put w b o p.enc).setCell ⟨b, o + 26, none⟩ (.int .i64 x) = put w b o ({ p with s2 := { p.s2 with port := x } } : Sl9).enc := (put_setCell (k := 26) h rfl (by decide) _).trans rfl
@[go_sem ↓] theorem Sl9.get_s2_port (p : Sl9) : p.enc.toArray[26]? = some (.int .i64 p.s2.port) := rfl
@[go_sem] theorem Sl9.at_s2_port (p : Sl9) (h : 26 < p.enc.length) : p.enc[26] = .int .i64 p.s2.port := rfl
@[go_sem ↓] theorem Sl9.lget_s2_port (p : Sl9) : p.enc[26]? = some (.int .i64 p.s2.port) := rfl
@[go_sem] theorem Sl9.cell_s2_ports {w : World} {b o : Nat} {p : Sl9} (h : Fit w b o 90) : (put w b o p.enc).cell? ⟨b, o + 27, none⟩ = some (.int .u32 p.s2.ports) := (put_cell (k := 27) h rfl (by decide)).trans rfl
@[go_sem] theorem Sl9.set_s2_ports {w : World} {b o : Nat} {p : Sl9} (h : Fit w b o 90) (x : Int) : (put w b o p.enc).setCell ⟨b, o + 27, none⟩ (.int .u32 x) = put w b o ({ p with s2 := { p.s2 with ports := x } } : Sl9).enc := (put_setCell (k := 27) h rfl (by decide) _).trans rfl
@[go_sem ↓] theorem Sl9.get_s2_ports (p : Sl9) : p.enc.toArray[27]? = some (.int .u32 p.s2.ports) := rfl
@[go_sem] theorem Sl9.at_s2_ports (p : Sl9) (h : 27 < p.enc.length) : p.enc[27] = .int .u32 p.s2.ports := rfl
@[go_sem ↓] theorem Sl9.lget_s2_ports (p : Sl9) : p.enc[27]? = some (.int .u32 p.s2.ports) := rfl
@[go_sem] theorem Sl9.cell_s2_age {w : World} {b o : Nat} {p : Sl9} (h : Fit w b o 90) : (put w b o p.enc).cell? ⟨b, o + 28, none⟩ = some (.int .i64 p.s2.age) := (put_cell (k := 28) h rfl (by decide)).trans rfl
@[go_sem] theorem Sl9.set_s2_age {w : World} {b o : Nat} {p : Sl9} (h : Fit w b o 90) (x : Int) : (put w b o p.enc).setCell ⟨b, o + 28, none⟩ (.int .i64 x) = put w b o ({ p with s2 := { p.s2 with age := x } } : Sl9).enc := (put_setCell (k := 28) h rfl (by decide) _).trans rfl
@[go_sem ↓] theorem Sl9.get_s2_age (p : Sl9) : p.enc.toArray[28]? = some (.int .i64 p.s2.age) := rfl
@[go_sem] theorem Sl9.at_s2_age (p : Sl9) (h : 28 < p.enc.length) : p.enc[28] = .int .i64 p.s2.age := rfl
@[go_sem ↓] theorem Sl9.lget_s2_age (p : Sl9) : p.enc[28]? = some (.int .i64 p.s2.age) := rfl
@[go_sem] theorem Sl9.cell_s2_static {w : World} {b o : Nat} {p : Sl9} (h : Fit w b o 90) : (put w b o p.enc).cell? ⟨b, o + 29, none⟩ = some (.bool p.s2.static) := (put_cell (k := 29) h rfl (by decide)).trans rfl
@[go_sem] theorem Sl9.set_s2_static {w : World} {b o : Nat} {p : Sl9} (h : Fit w b o 90) (x : Bool) : (put w b o p.enc).setCell ⟨b, o + 29, none⟩ (.bool x) = put w b o ({ p with s2 := { p.s2 with static := x } } : Sl9).enc := (put_setCell (k := 29) h rfl (by decide) _).trans rfl
@[go_sem ↓] theorem Sl9.get_s2_static (p : Sl9) : p.enc.toArray[29]? = some (.bool p.s2.static) := rfl
@[go_sem] theorem Sl9.at_s2_static (p : Sl9) (h : 29 < p.enc.length) : p.enc[29] = .bool p.s2.static := rfl
@[go_sem ↓] theorem Sl9.lget_s2_static (p : Sl9) : p.enc[29]? = some (.bool p.s2.static) := rfl
@[go_sem] theorem Sl9.cell_s3_mac_b0 {w : World} {b o : Nat} {p : Sl9} (h : Fit w b o 90) : (put w b o p.enc).cell? ⟨b, o + 30, none⟩ = some (.int .u8 p.s3.mac.b0) := (put_cell (k := 30) h rfl (by decide)).trans rfl
@[go_sem] theorem Sl9.set_s3_mac_b0 {w : World} {b o : Nat} {p : Sl9} (h : Fit w b o 90) (x : Int) : (put w b o p.enc).setCell ⟨b, o + 30, none⟩ (.int .u8 x) = put w b o ({ p with s3 := { p.s3 with mac := { p.s3.mac with b0 := x } } } : Sl9).enc := (put_setCell (k := 30) h rfl (by decide) _).trans rfl
@[go_sem ↓] theorem Sl9.get_s3_mac_b0 (p : Sl9) : p.enc.toArray[30]? = some (.int .u8 p.s3.mac.b0) := rfl
@[go_sem] theorem Sl9.at_s3_mac_b0 (p : Sl9) (h : 30 < p.enc.length) : p.enc[30] = .int .u8 p.s3.mac.b0 := rfl
@[go_sem ↓] theorem Sl9.lget_s3_mac_b0 (p : Sl9) : p.enc[30]? = some (.int .u8 p.s3.mac.b0) := rfl
@[go_sem] theorem Sl9.cell_s3_mac_b1 {w : World} {b o : Nat} {p : Sl9} (h : Fit w b o 90) : (put w b o p.enc).cell? ⟨b, o + 31, none⟩ = some (.int .u8 p.s3.mac.b1) := (put_cell (k := 31) h rfl (by decide)).trans rfl
@[go_sem] theorem Sl9.set_s3_mac_b1 {w : World} {b o : Nat} {p : Sl9} (h : Fit w b o 90) (x : Int) : (put w b o p.enc).setCell ⟨b, o + 31, none⟩ (.int .u8 x) = put w b o ({ p with s3 := { p.s3 with mac := { p.s3.mac with b1 := x } } } : Sl9).enc := (put_setCell (k := 31) h rfl (by decide) _).trans rfl
@[go_sem ↓] theorem Sl9.get_s3_mac_b1 (p : Sl9) : p.enc.toArray[31]? = some (.int .u8 p.s3.mac.b1) := rfl
@[go_sem] theorem Sl9.at_s3_mac_b1 (p : Sl9) (h : 31 < p.enc.length) : p.enc[31] = .int .u8 p.s3.mac.b1 := rfl
@[go_sem ↓] theorem Sl9.lget_s3_mac_b1 (p : Sl9) : p.enc[31]? = some (.int .u8 p.s3.mac.b1) := rfl
@[go_sem] theorem Sl9.cell_s3_mac_b2 {w : World} {b o : Nat} {p : Sl9} (h : Fit w b o 90) : (put w b o p.enc).cell? ⟨b, o + 32, none⟩ = some (.int .u8 p.s3.mac.b2) := (put_cell (k := 32) h rfl (by decide)).trans rfl
@[go_sem] theorem Sl9.set_s3_mac_b2 {w : World} {b o : Nat} {p : Sl9} (h : Fit w b o 90) (x : Int) : (put w b o p.enc).setCell ⟨b, o + 32, none⟩ (.int .u8 x) = put w b o ({ p with s3 := { p.s3 with mac := { p.s3.mac with b2 := x } } } : Sl9).enc := (put_setCell (k := 32) h rfl (by decide) _).trans rfl
@[go_sem ↓] theorem Sl9.get_s3_mac_b2 (p : Sl9) : p.enc.toArray[32]? = some (.int .u8 p.s3.mac.b2) := rfl
@[go_sem] theorem Sl9.at_s3_mac_b2 (p : Sl9) (h : 32 < p.enc.length) : p.enc[32] = .int .u8 p.s3.mac.b2 := rfl
@[go_sem ↓] theorem Sl9.lget_s3_mac_b2 (p : Sl9) : p.enc[32]? = some (.int .u8 p.s3.mac.b2) := rfl
@[go_sem] theorem Sl9.cell_s3_mac_b3 {w : World} {b o : Nat} {p : Sl9} (h : Fit w b o 90) : (put w b o p.enc).cell? ⟨b, o + 33, none⟩ = some (.int .u8 p.s3.mac.b3) := (put_cell (k := 33) h rfl (by decide)).trans rfl
@[go_sem] theorem Sl9.set_s3_mac_b3 {w : World} {b o : Nat} {p : Sl9} (h : Fit w b o 90) (x : Int) : (put w b o p.enc).setCell ⟨b, o + 33, none⟩ (.int .u8 x) = put w b o ({ p with s3 := { p.s3 with mac := { p.s3.mac with b3 := x } } } : Sl9).enc := (put_setCell (k := 33) h rfl (by decide) _).trans rfl
@[go_sem ↓] theorem Sl9.get_s3_mac_b3 (p : Sl9) : p.enc.toArray[33]? = some (.int .u8 p.s3.mac.b3) := rfl
@[go_sem] theorem Sl9.at_s3_mac_b3 (p : Sl9) (h : 33 < p.enc.length) : p.enc[33] = .int .u8 p.s3.mac.b3 := rfl
@[go_sem ↓] theorem Sl9.lget_s3_mac_b3 (p : Sl9) : p.enc[33]? = some (.int .u8 p.s3.mac.b3) := rfl
@[go_sem] theorem Sl9.cell_s3_mac_b4 {w : World} {b o : Nat} {p : Sl9} (h : Fit w b o 90) : (put w b o p.enc).cell? ⟨b, o + 34, none⟩ = some (.int .u8 p.s3.mac.b4) := (put_cell (k := 34) h rfl (by decide)).trans rfl
@[go_sem] theorem Sl9.set_s3_mac_b4 {w : World} {b o : Nat} {p : Sl9} (h : Fit w b o 90) (x : Int) : (put w b o p.enc).setCell ⟨b, o + 34, none⟩ (.int .u8 x) = put w b o ({ p with s3 := { p.s3 with mac := { p.s3.mac with b4 := x } } } : Sl9).enc := (put_setCell (k := 34) h rfl (by decide) _).trans rfl
@[go_sem ↓] theorem Sl9.get_s3_mac_b4 (p : Sl9) : p.enc.toArray[34]? = some (.int .u8 p.s3.mac.b4) := rfl
@[go_sem] theorem Sl9.at_s3_mac_b4 (p : Sl9) (h : 34 < p.enc.length) : p.enc[34] = .int .u8 p.s3.mac.b4 := rfl
@[go_sem ↓] theorem Sl9.lget_s3_mac_b4 (p : Sl9) : p.enc[34]? = some (.int .u8 p.s3.mac.b4) := rfl
@[go_sem] theorem Sl9.cell_s3_mac_b5 {w : World} {b o : Nat} {p : Sl9} (h : Fit w b o 90) : (put w b o p.enc).cell? ⟨b, o + 35, none⟩ = some (.int .u8 p.s3.mac.b5) := (put_cell (k := 35) h rfl (by decide)).trans rfl
@[go_sem] theorem Sl9.set_s3_mac_b5 {w : World} {b o : Nat} {p : Sl9} (h : Fit w b o 90) (x : Int) : (put w b o p.enc).setCell ⟨b, o + 35, none⟩ (.int .u8 x) = put w b o ({ p with s3 := { p.s3 with mac := { p.s3.mac with b5 := x } } } : Sl9).enc := (put_setCell (k := 35) h rfl (by decide) _).trans rfl
@[go_sem ↓] theorem Sl9.get_s3_mac_b5 (p : Sl9) : p.enc.toArray[35]? = some (.int .u8 p.s3.mac.b5) := rfl
@[go_sem] theorem Sl9.at_s3_mac_b5 (p : Sl9) (h : 35 < p.enc.length) : p.enc[35] = .int .u8 p.s3.mac.b5 := rfl
@[go_sem ↓] theorem Sl9.lget_s3_mac_b5 (p : Sl9) : p.enc[35]? = some (.int .u8 p.s3.mac.b5) := rfl
@[go_sem] theorem Sl9.cell_s3_port {w : World} {b o : Nat} {p : Sl9} (h : Fit w b o 90) : (put w b o p.enc).cell? ⟨b, o + 36, none⟩ = some (.int .i64 p.s3.port) := (put_cell (k := 36) h rfl (by decide)).trans rfl
@[go_sem] theorem Sl9.set_s3_port {w : World} {b o : Nat} {p : Sl9} (h : Fit w b o 90) (x : Int) : (put w b o p.enc).setCell ⟨b, o + 36, none⟩ (.int .i64 x) = put w b o ({ p with s3 := { p.s3 with port := x } } : Sl9).enc := (put_setCell (k := 36) h rfl (by decide) _).trans rfl
@[go_sem ↓] theorem Sl9.get_s3_port (p : Sl9) : p.enc.toArray[36]? = some (.int .i64 p.s3.port) := rfl
@[go_sem] theorem Sl9.at_s3_port (p : Sl9) (h : 36 < p.enc.length) : p.enc[36] = .int .i64 p.s3.port := rfl
@[go_sem ↓] theorem Sl9.lget_s3_port (p : Sl9) : p.enc[36]? = some (.int .i64 p.s3.port) := rfl
@[go_sem] theorem Sl9.cell_s3_ports {w : World} {b o : Nat} {p : Sl9} (h : Fit w b o 90) : (put w b o p.enc).cell? ⟨b, o + 37, none⟩ = some (.int .u32 p.s3.ports) := (put_cell (k := 37) h rfl (by decide)).trans rfl
@[go_sem] theorem Sl9.set_s3_ports {w : World} {b o : Nat} {p : Sl9} (h : Fit w b o 90) (x : Int) : (put w b o p.enc).setCell ⟨b, o + 37, none⟩ (.int .u32 x) = put w b o ({ p with s3 := { p.s3 with ports := x } } : Sl9).enc := (put_setCell (k := 37) h rfl (by decide) _).trans rfl
@[go_sem ↓] theorem Sl9.get_s3_ports (p : Sl9) : p.enc.toArray[37]? = some (.int .u32 p.s3.ports) := rfl
@[go_sem] theorem Sl9.at_s3_ports (p : Sl9) (h : 37 < p.enc.length) : p.enc[37] = .int .u32 p.s3.ports := rfl
@[go_sem ↓] theorem Sl9.lget_s3_ports (p : Sl9) : p.enc[37]? = some (.int .u32 p.s3.ports) := rfl
@[go_sem] theorem Sl9.cell_s3_age {w : World} {b o : Nat} {p : Sl9} (h : Fit w b o 90) : (put w b o p.enc).cell? ⟨b, o + 38, none⟩ = some (.int .i64 p.s3.age) := (put_cell (k := 38) h rfl (by decide)).trans rfl
@[go_sem] theorem Sl9.set_s3_age {w : World} {b o : Nat} {p : Sl9} (h : Fit w b o 90) (x : Int) : (put w b o p.enc).setCell ⟨b, o + 38, none⟩ (.int .i64 x) = put w b o ({ p with s3 := { p.s3 with age := x } } : Sl9).enc := (put_setCell (k := 38) h rfl (by decide) _).trans rfl
@[go_sem ↓] theorem Sl9.get_s3_age (p : Sl9) : p.enc.toArray[38]? = some (.int .i64 p.s3.age) := rfl
@[go_sem] theorem Sl9.at_s3_age (p : Sl9) (h : 38 < p.enc.length) : p.enc[38] = .int .i64 p.s3.age := rfl
@[go_sem ↓] theorem Sl9.lget_s3_age (p : Sl9) : p.enc[38]? = some (.int .i64 p.s3.age) := rfl
@[go_sem] theorem Sl9.cell_s3_static {w : World} {b o : Nat} {p : Sl9} (h : Fit w b o 90) : (put w b o p.enc).cell? ⟨b, o + 39, none⟩ = some (.bool p.s3.static) := (put_cell (k := 39) h rfl (by decide)).trans rfl
@[go_sem] theorem Sl9.set_s3_static {w : World} {b o : Nat} {p : Sl9} (h : Fit w b o 90) (x : Bool) : (put w b o p.enc).setCell ⟨b, o + 39, none⟩ (.bool x) = put w b o ({ p with s3 := { p.s3 with static := x } } : Sl9).enc := (put_setCell (k := 39) h rfl (by decide) _).trans rfl
@[go_sem ↓] theorem Sl9.get_s3_static (p : Sl9) : p.enc.toArray[39]? = some (.bool p.s3.static) := rfl
@[go_sem] theorem Sl9.at_s3_static (p : Sl9) (h : 39 < p.enc.length) : p.enc[39] = .bool p.s3.static := rfl
@[go_sem ↓] theorem Sl9.lget_s3_static (p : Sl9) : p.enc[39]? = some (.bool p.s3.static) := rfl
@[go_sem] theorem Sl9.cell_s4_mac_b0 {w : World} {b o : Nat} {p : Sl9} (h : Fit w b o 90) : (put w b o p.enc).cell? ⟨b, o + 40, none⟩ = some (.int .u8 p.s4.mac.b0) := (put_cell (k := 40) h rfl (by decide)).trans rfl
@[go_sem] theorem Sl9.set_s4_mac_b0 {w : World} {b o : Nat} {p : Sl9} (h : Fit w b o 90) (x : Int) : (put w b o p.enc).setCell ⟨b, o + 40, none⟩ (.int .u8 x) = put w b o ({ p with s4 := { p.s4 with mac := { p.s4.mac with b0 := x } } } : Sl9).enc := (put_setCell (k := 40) h rfl (by decide) _).trans rfl
@[go_sem ↓] theorem Sl9.get_s4_mac_b0 (p : Sl9) : p.enc.toArray[40]? = some (.int .u8 p.s4.mac.b0) := rfl
@[go_sem] theorem Sl9.at_s4_mac_b0 (p : Sl9) (h : 40 < p.enc.length) : p.enc[40] = .int .u8 p.s4.mac.b0 := rfl
@[go_sem ↓] theorem Sl9.lget_s4_mac_b0 (p : Sl9) : p.enc[40]? = some (.int .u8 p.s4.mac.b0) := rfl
@[go_sem] theorem Sl9.cell_s4_mac_b1 {w : World} {b o : Nat} {p : Sl9} (h : Fit w b o 90) : (put w b o p.enc).cell? ⟨b, o + 41, none⟩ = some (.int .u8 p.s4.mac.b1) := (put_cell (k := 41) h rfl (by decide)).trans rfl
@[go_sem] theorem Sl9.set_s4_mac_b1 {w : World} {b o : Nat} {p : Sl9} (h : Fit w b o 90) (x : Int) : (put w b o p.enc).setCell ⟨b, o + 41, none⟩ (.int .u8 x) = put w b o ({ p with s4 := { p.s4 with mac := { p.s4.mac with b1 := x } } } : Sl9).enc := (put_setCell (k := 41) h rfl (by decide) _).trans rfl
@[go_sem ↓] theorem Sl9.get_s4_mac_b1 (p : Sl9) : p.enc.toArray[41]? = some (.int .u8 p.s4.mac.b1) := rfl
@[go_sem] theorem Sl9.at_s4_mac_b1 (p : Sl9) (h : 41 < p.enc.length) : p.enc[41] = .int .u8 p.s4.mac.b1 := rfl
@[go_sem ↓] theorem Sl9.lget_s4_mac_b1 (p : Sl9) : p.enc[41]? = some (.int .u8 p.s4.mac.b1) := rfl
@[go_sem] theorem Sl9.cell_s4_mac_b2 {w : World} {b o : Nat} {p : Sl9} (h : Fit w b o 90) : (put w b o p.enc).cell? ⟨b, o + 42, none⟩ = some (.int .u8 p.s4.mac.b2) := (put_cell (k := 42) h rfl (by decide)).trans rfl
@[go_sem] theorem Sl9.set_s4_mac_b2 {w : World} {b o : Nat} {p : Sl9} (h : Fit w b o 90) (x : Int) : (put w b o p.enc).setCell ⟨b, o + 42, none⟩ (.int .u8 x) = put w b o ({ p with s4 := { p.s4 with mac := { p.s4.mac with b2 := x } } } : Sl9).enc := (put_setCell (k := 42) h rfl (by decide) _).trans rfl
@[go_sem ↓] theorem Sl9.get_s4_mac_b2 (p : Sl9) : p.enc.toArray[42]? = some (.int .u8 p.s4.mac.b2) := rfl
@[go_sem] theorem Sl9.at_s4_mac_b2 (p : Sl9) (h : 42 < p.enc.length) : p.enc[42] = .int .u8 p.s4.mac.b2 := rfl
@[go_sem ↓] theorem Sl9.lget_s4_mac_b2 (p : Sl9) : p.enc[42]? = some (.int .u8 p.s4.mac.b2) := rfl
@[go_sem] theorem Sl9.cell_s4_mac_b3 {w : World} {b o : Nat} {p : Sl9} (h : Fit w b o 90) : (put w b o p.enc).cell? ⟨b, o + 43, none⟩ = some (.int .u8 p.s4.mac.b3) := (put_cell (k := 43) h rfl (by decide)).trans rfl
@[go_sem] theorem Sl9.set_s4_mac_b3 {w : World} {b o : Nat} {p : Sl9} (h : Fit w b o 90) (x : Int) : (put w b o p.enc).setCell ⟨b, o + 43, none⟩ (.int .u8 x) = put w b o ({ p with s4 := { p.s4 with mac := { p.s4.mac with b3 := x } } } : Sl9).enc := (put_setCell (k := 43) h rfl (by decide) _).trans rfl
@[go_sem ↓] theorem Sl9.get_s4_mac_b3 (p : Sl9) : p.enc.toArray[43]? = some (.int .u8 p.s4.mac.b3) := rfl
@[go_sem] theorem Sl9.at_s4_mac_b3 (p : Sl9) (h : 43 < p.enc.length) : p.enc[43] = .int .u8 p.s4.mac.b3 := rfl
@[go_sem ↓] theorem Sl9.lget_s4_mac_b3 (p : Sl9) : p.enc[43]? = some (.int .u8 p.s4.mac.b3) := rfl
@[go_sem] theorem Sl9.cell_s4_mac_b4 {w : World} {b o : Nat} {p : Sl9} (h : Fit w b o 90) : (put w b o p.enc).cell? ⟨b, o + 44, none⟩ = some (.int .u8 p.s4.mac.b4) := (put_cell (k := 44) h rfl (by decide)).trans rfl
@[go_sem] theorem Sl9.set_s4_mac_b4 {w : World} {b o : Nat} {p : Sl9} (h : Fit w b o 90) (x : Int) : (put w b o p.enc).setCell ⟨b, o + 44, none⟩ (.int .u8 x) = put w b o ({ p with s4 := { p.s4 with mac := { p.s4.mac with b4 := x } } } : Sl9).enc := (put_setCell (k := 44) h rfl (by decide) _).trans rfl
@[go_sem ↓] theorem Sl9.get_s4_mac_b4 (p : Sl9) : p.enc.toArray[44]? = some (.int .u8 p.s4.mac.b4) := rfl
@[go_sem] theorem Sl9.at_s4_mac_b4 (p : Sl9) (h : 44 < p.enc.length) : p.enc[44] = .int .u8 p.s4.mac.b4 := rfl
@[go_sem ↓] theorem Sl9.lget_s4_mac_b4 (p : Sl9) : p.enc[44]? = some (.int .u8 p.s4.mac.b4) := rfl
@[go_sem] theorem Sl9.cell_s4_mac_b5 {w : World} {b o : Nat} {p : Sl9} (h : Fit w b o 90) : (put w b o p.enc).cell? ⟨b, o + 45, none⟩ = some (.int .u8 p.s4.mac.b5) := (put_cell (k := 45) h rfl (by decide)).trans rfl
@[go_sem] theorem Sl9.set_s4_mac_b5 {w : World} {b o : Nat} {p : Sl9} (h : Fit w b o 90) (x : Int) : (put w b o p.enc).setCell ⟨b, o + 45, none⟩ (.int .u8 x) = put w b o ({ p with s4 := { p.s4 with mac := { p.s4.mac with b5 := x } } } : Sl9).enc := (put_setCell (k := 45) h rfl (by decide) _).trans rfl
@[go_sem ↓] theorem Sl9.get_s4_mac_b5 (p : Sl9) : p.enc.toArray[45]? = some (.int .u8 p.s4.mac.b5) := rfl
@[go_sem] theorem Sl9.at_s4_mac_b5 (p : Sl9) (h : 45 < p.enc.length) : p.enc[45] = .int .u8 p.s4.mac.b5 := rfl
@[go_sem ↓] theorem Sl9.lget_s4_mac_b5 (p : Sl9) : p.enc[45]? = some (.int .u8 p.s4.mac.b5) := rfl
@[go_sem] theorem Sl9.cell_s4_port {w : World} {b o : Nat} {p : Sl9} (h : Fit w b o 90) : (put w b o p.enc).cell? ⟨b, o + 46, none⟩ = some (.int .i64 p.s4.port) := (put_cell (k := 46) h rfl (by decide)).trans rfl
@[go_sem] theorem Sl9.set_s4_port {w : World} {b o : Nat} {p : Sl9} (h : Fit w b o 90) (x : Int) : (put w b o p.enc).setCell ⟨b, o + 46, none⟩ (.int .i64 x) = put w b o ({ p with s4 := { p.s4 with port := x } } : Sl9).enc := (put_setCell (k := 46) h rfl (by decide) _).trans rfl
@[go_sem ↓] theorem Sl9.get_s4_port (p : Sl9) : p.enc.toArray[46]? = some (.int .i64 p.s4.port) := rfl
@[go_sem] theorem Sl9.at_s4_port (p : Sl9) (h : 46 < p.enc.length) : p.enc[46] = .int .i64 p.s4.port := rfl
@[go_sem ↓] theorem Sl9.lget_s4_port (p : Sl9) : p.enc[46]? = some (.int .i64 p.s4.port) := rfl
@[go_sem] theorem Sl9.cell_s4_ports {w : World} {b o : Nat} {p : Sl9} (h : Fit w b o 90) : (put w b o p.enc).cell? ⟨b, o + 47, none⟩ = some (.int .u32 p.s4.ports) := (put_cell (k := 47) h rfl (by decide)).trans rfl
@[go_sem] theorem Sl9.set_s4_ports {w : World} {b o : Nat} {p : Sl9} (h : Fit w b o 90) (x : Int) : (put w b o p.enc).setCell ⟨b, o + 47, none⟩ (.int .u32 x) = put w b o ({ p with s4 := { p.s4 with ports := x } } : Sl9).enc := (put_setCell (k := 47) h rfl (by decide) _).trans rfl
@[go_sem ↓] theorem Sl9.get_s4_ports (p : Sl9) : p.enc.toArray[47]? = some (.int .u32 p.s4.ports) := rfl
@[go_sem] theorem Sl9.at_s4_ports (p : Sl9) (h : 47 < p.enc.length) : p.enc[47] = .int .u32 p.s4.ports := rfl
@[go_sem ↓] theorem Sl9.lget_s4_ports (p : Sl9) : p.enc[47]? = some (.int .u32 p.s4.ports) := rfl
@[go_sem] theorem Sl9.cell_s4_age {w : World} {b o : Nat} {p : Sl9} (h : Fit w b o 90) : (put w b o p.enc).cell? ⟨b, o + 48, none⟩ = some (.int .i64 p.s4.age) := (put_cell (k := 48) h rfl (by decide)).trans rfl
@[go_sem] theorem Sl9.set_s4_age {w : World} {b o : Nat} {p : Sl9} (h : Fit w b o 90) (x : Int) : (put w b o p.enc).setCell ⟨b, o + 48, none⟩ (.int .i64 x) = put w b o ({ p with s4 := { p.s4 with age := x } } : Sl9).enc := (put_setCell (k := 48) h rfl (by decide) _).trans rfl
@[go_sem ↓] theorem Sl9.get_s4_age (p : Sl9) : p.enc.toArray[48]? = some (.int .i64 p.s4.age) := rfl
@[go_sem] theorem Sl9.at_s4_age (p : Sl9) (h : 48 < p.enc.length) : p.enc[48] = .int .i64 p.s4.age := rfl
@[go_sem ↓] theorem Sl9.lget_s4_age (p : Sl9) : p.enc[48]? = some (.int .i64 p.s4.age) := rfl
@[go_sem] theorem Sl9.cell_s4_static {w : World} {b o : Nat} {p : Sl9} (h : Fit w b o 90) : (put w b o p.enc).cell? ⟨b, o + 49, none⟩ = some (.bool p.s4.static) := (put_cell (k := 49) h rfl (by decide)).trans rfl
@[go_sem] theorem Sl9.set_s4_static {w : World} {b o : Nat} {p : Sl9} (h : Fit w b o 90) (x : Bool) : (put w b o p.enc).setCell ⟨b, o + 49, none⟩ (.bool x) = put w b o ({ p with s4 := { p.s4 with static := x } } : Sl9).enc := (put_setCell (k := 49) h rfl (by decide) _).trans rfl
@[go_sem ↓] theorem Sl9.get_s4_static (p : Sl9) : p.enc.toArray[49]? = some (.bool p.s4.static) := rfl
@[go_sem] theorem Sl9.at_s4_static (p : Sl9) (h : 49 < p.enc.length) : p.enc[49] = .bool p.s4.static := rfl
@[go_sem ↓] theorem Sl9.lget_s4_static (p : Sl9) : p.enc[49]? = some (.bool p.s4.static) := rfl
@[go_sem] theorem Sl9.cell_s5_mac_b0 {w : World} {b o : Nat} {p : Sl9} (h : Fit w b o 90) : (put w b o p.enc).cell? ⟨b, o + 50, none⟩ = some (.int .u8 p.s5.mac.b0) := (put_cell (k := 50) h rfl (by decide)).trans rfl
@[go_sem] theorem Sl9.set_s5_mac_b0 {w : World} {b o : Nat} {p : Sl9} (h : Fit w b o 90) (x : Int) : (put w b o p.enc).setCell ⟨b, o + 50, none⟩ (.int .u8 x) = put w b o ({ p with s5 := { p.s5 with mac := { p.s5.mac with b0 := x } } } : Sl9).enc := (put_setCell (k := 50) h rfl (by decide) _).trans rfl
@[go_sem ↓] theorem Sl9.get_s5_mac_b0 (p : Sl9) : p.enc.toArray[50]? = some (.int .u8 p.s5.mac.b0) := rfl
@[go_sem] theorem Sl9.at_s5_mac_b0 (p : Sl9) (h : 50 < p.enc.length) : p.enc[50] = .int .u8 p.s5.mac.b0 := rfl
@[go_sem ↓] theorem Sl9.lget_s5_mac_b0 (p : Sl9) : p.enc[50]? = some (.int .u8 p.s5.mac.b0) := rfl
@[go_sem] theorem Sl9.cell_s5_mac_b1 {w : World} {b o : Nat} {p : Sl9} (h : Fit w b o 90) : (put w b o p.enc).cell? ⟨b, o + 51, none⟩ = some (.int .u8 p.s5.mac.b1) := (put_cell (k := 51) h rfl (by decide)).trans rfl
@[go_sem] theorem Sl9.set_s5_mac_b1 {w : World} {b o : Nat} {p : Sl9} (h : Fit w b o 90) (x : Int) : (put w b o p.enc).setCell ⟨b, o + 51, none⟩ (.int .u8 x) = put w b o ({ p with s5 := { p.s5 with mac := { p.s5.mac with b1 := x } } } : Sl9).enc := (put_setCell (k := 51) h rfl (by decide) _).trans rfl
@[go_sem ↓] theorem Sl9.get_s5_mac_b1 (p : Sl9) : p.enc.toArray[51]? = some (.int .u8 p.s5.mac.b1) := rfl
@[go_sem] theorem Sl9.at_s5_mac_b1 (p : Sl9) (h : 51 < p.enc.length) : p.enc[51] = .int .u8 p.s5.mac.b1 := rfl
@[go_sem ↓] theorem Sl9.lget_s5_mac_b1 (p : Sl9) : p.enc[51]? = some (.int .u8 p.s5.mac.b1) := rfl
@[go_sem] theorem Sl9.cell_s5_mac_b2 {w : World} {b o : Nat} {p : Sl9} (h : Fit w b o 90) : (put w b o p.enc).cell? ⟨b, o + 52, none⟩ = some (.int .u8 p.s5.mac.b2) := (put_cell (k := 52) h rfl (by decide)).trans rfl
@[go_sem] theorem Sl9.set_s5_mac_b2 {w : World} {b o : Nat} {p : Sl9} (h : Fit w b o 90) (x : Int) : (put w b o p.enc).setCell ⟨b, o + 52, none⟩ (.int .u8 x) = put w b o ({ p with s5 := { p.s5 with mac := { p.s5.mac with b2 := x } } } : Sl9).enc := (put_setCell (k := 52) h rfl (by decide) _).trans rfl
@[go_sem ↓] theorem Sl9.get_s5_mac_b2 (p : Sl9) : p.enc.toArray[52]? = some (.int .u8 p.s5.mac.b2) := rfl
@[go_sem] theorem Sl9.at_s5_mac_b2 (p : Sl9) (h : 52 < p.enc.length) : p.enc[52] = .int .u8 p.s5.mac.b2 := rfl
@[go_sem ↓] theorem Sl9.lget_s5_mac_b2 (p : Sl9) : p.enc[52]? = some (.int .u8 p.s5.mac.b2) := rfl
@[go_sem] theorem Sl9.cell_s5_mac_b3 {w : World} {b o : Nat} {p : Sl9} (h : Fit w b o 90) : (put w b o p.enc).cell? ⟨b, o + 53, none⟩ = some (.int .u8 p.s5.mac.b3) := (put_cell (k := 53) h rfl (by decide)).trans rfl
@[go_sem] theorem Sl9.set_s5_mac_b3 {w : World} {b o : Nat} {p : Sl9} (h : Fit w b o 90) (x : Int) : (put w b o p.enc).setCell ⟨b, o + 53, none⟩ (.int .u8 x) = put w b o ({ p with s5 := { p.s5 with mac := { p.s5.mac with b3 := x } } } : Sl9).enc := (put_setCell (k := 53) h rfl (by decide) _).trans rfl
@[go_sem ↓] theorem Sl9.get_s5_mac_b3 (p : Sl9) : p.enc.toArray[53]? = some (.int .u8 p.s5.mac.b3) := rfl
@[go_sem] theorem Sl9.at_s5_mac_b3 (p : Sl9) (h : 53 < p.enc.length) : p.enc[53] = .int .u8 p.s5.mac.b3 := rfl
@[go_sem ↓] theorem Sl9.lget_s5_mac_b3 (p : Sl9) : p.enc[53]? = some (.int .u8 p.s5.mac.b3) := rfl
@[go_sem] theorem Sl9.cell_s5_mac_b4 {w : World} {b o : Nat} {p : Sl9} (h : Fit w b o 90) : (put w b o p.enc).cell? ⟨b, o + 54, none⟩ = some (.int .u8 p.s5.mac.b4) := (put_cell (k := 54) h rfl (by decide)).trans rfl
@[go_sem] theorem Sl9.set_s5_mac_b4 {w : World} {b o : Nat} {p : Sl9} (h : Fit w b o 90) (x : Int) : (put w b o p.enc).setCell ⟨b, o + 54, none⟩ (.int .u8 x) = put w b o ({ p with s5 := { p.s5 with mac := { p.s5.mac with b4 := x } } } : Sl9).enc := (put_setCell (k := 54) h rfl (by decide) _).trans rfl
@[go_sem ↓] theorem Sl9.get_s5_mac_b4 (p : Sl9) : p.enc.toArray[54]? = some (.int .u8 p.s5.mac.b4) := rfl
@[go_sem] theorem Sl9.at_s5_mac_b4 (p : Sl9) (h : 54 < p.enc.length) : p.enc[54] = .int .u8 p.s5.mac.b4 := rfl
@[go_sem ↓] theorem Sl9.lget_s5_mac_b4 (p : Sl9) : p.enc[54]? = some (.int .u8 p.s5.mac.b4) := rfl
@[go_sem] theorem Sl9.cell_s5_mac_b5 {w : World} {b o : Nat} {p : Sl9} (h : Fit w b o 90) : (put w b o p.enc).cell? ⟨b, o + 55, none⟩ = some (.int .u8 p.s5.mac.b5) := (put_cell (k := 55) h rfl (by decide)).trans rfl
@[go_sem] theorem Sl9.set_s5_mac_b5 {w : World} {b o : Nat} {p : Sl9} (h : Fit w b o 90) (x : Int) : (put w b o p.enc).setCell ⟨b, o + 55, none⟩ (.int .u8 x) = put w b o ({ p with s5 := { p.s5 with mac := { p.s5.mac with b5 := x } } } : Sl9).enc := (put_setCell (k := 55) h rfl (by decide) _).trans rfl
@[go_sem ↓] theorem Sl9.get_s5_mac_b5 (p : Sl9) : p.enc.toArray[55]? = some (.int .u8 p.s5.mac.b5) := rfl
@[go_sem] theorem Sl9.at_s5_mac_b5 (p : Sl9) (h : 55 < p.enc.length) : p.enc[55] = .int .u8 p.s5.mac.b5 := rfl
@[go_sem ↓] theorem Sl9.lget_s5_mac_b5 (p : Sl9) : p.enc[55]? = some (.int .u8 p.s5.mac.b5) := rfl
@[go_sem] theorem Sl9.cell_s5_port {w : World} {b o : Nat} {p : Sl9} (h : Fit w b o 90) : (put w b o p.enc).cell? ⟨b, o + 56, none⟩ = some (.int .i64 p.s5.port) := (put_cell (k := 56) h rfl (by decide)).trans rfl
@[go_sem] theorem Sl9.set_s5_port {w : World} {b o : Nat} {p : Sl9} (h : Fit w b o 90) (x : Int) : (put w b o p.enc).setCell ⟨b, o + 56, none⟩ (.int .i64 x) = put w b o ({ p with s5 := { p.s5 with port := x } } : Sl9).enc := (put_setCell (k := 56) h rfl (by decide) _).trans rfl
@[go_sem ↓] theorem Sl9.get_s5_port (p : Sl9) : p.enc.toArray[56]? = some (.int .i64 p.s5.port) := rfl
@[go_sem] theorem Sl9.at_s5_port (p : Sl9) (h : 56 < p.enc.length) : p.enc[56] = .int .i64 p.s5.port := rfl
@[go_sem ↓] theorem Sl9.lget_s5_port (p : Sl9) : p.enc[56]? = some (.int .i64 p.s5.port) := rfl
@[go_sem] theorem Sl9.cell_s5_ports {w : World} {b o : Nat} {p : Sl9} (h : Fit w b o 90) : (put w b o p.enc).cell? ⟨b, o + 57, none⟩ = some (.int .u32 p.s5.ports) := (put_cell (k := 57) h rfl (by decide)).trans rfl
@[go_sem] theorem Sl9.set_s5_ports {w : World} {b o : Nat} {p : Sl9} (h : Fit w b o 90) (x : Int) : (put w b o p.enc).setCell ⟨b, o + 57, none⟩ (.int .u32 x) = put w b o ({ p with s5 := { p.s5 with ports := x } } : Sl9).enc := (put_setCell (k := 57) h rfl (by decide) _).trans rfl
@[go_sem ↓] theorem Sl9.get_s5_ports (p : Sl9) : p.enc.toArray[57]? = some (.int .u32 p.s5.ports) := rfl
@[go_sem] theorem Sl9.at_s5_ports (p : Sl9) (h : 57 < p.enc.length) : p.enc[57] = .int .u32 p.s5.ports := rfl
@[go_sem ↓] theorem Sl9.lget_s5_ports (p : Sl9) : p.enc[57]? = some (.int .u32 p.s5.ports) := rfl
@[go_sem] theorem Sl9.cell_s5_age {w : World} {b o : Nat} {p : Sl9} (h : Fit w b o 90) : (put w b o p.enc).cell? ⟨b, o + 58, none⟩ = some (.int .i64 p.s5.age) := (put_cell (k := 58) h rfl (by decide)).trans rfl
@[go_sem] theorem Sl9.set_s5_age {w : World} {b o : Nat} {p : Sl9} (h : Fit w b o 90) (x : Int) : (put w b o p.enc).setCell ⟨b, o + 58, none⟩ (.int .i64 x) = put w b o ({ p with s5 := { p.s5 with age := x } } : Sl9).enc := (put_setCell (k := 58) h rfl (by decide) _).trans rfl
@[go_sem ↓] theorem Sl9.get_s5_age (p : Sl9) : p.enc.toArray[58]? = some (.int .i64 p.s5.age) := rfl
@[go_sem] theorem Sl9.at_s5_age (p : Sl9) (h : 58 < p.enc.length) : p.enc[58] = .int .i64 p.s5.age := rfl
@[go_sem ↓] theorem Sl9.lget_s5_age (p : Sl9) : p.enc[58]? = some (.int .i64 p.s5.age) := rfl
@[go_sem] theorem Sl9.cell_s5_static {w : World} {b o : Nat} {p : Sl9} (h : Fit w b o 90) : (put w b o p.enc).cell? ⟨b, o + 59, none⟩ = some (.bool p.s5.static) := (put_cell (k := 59) h rfl (by decide)).trans rfl
@[go_sem] theorem Sl9.set_s5_static {w : World} {b o : Nat} {p : Sl9} (h : Fit w b o 90) (x : Bool) : (put w b o p.enc).setCell ⟨b, o + 59, none⟩ (.bool x) = put w b o ({ p with s5 := { p.s5 with static := x } } : Sl9).enc := (put_setCell (k := 59) h rfl (by decide) _).trans rfl
@[go_sem ↓] theorem Sl9.get_s5_static (p : Sl9) : p.enc.toArray[59]? = some (.bool p.s5.static) := rfl
@[go_sem] theorem Sl9.at_s5_static (p : Sl9) (h : 59 < p.enc.length) : p.enc[59] = .bool p.s5.static := rfl
@[go_sem ↓] theorem Sl9.lget_s5_static (p : Sl9) : p.enc[59]? = some (.bool p.s5.static) := rfl
@[go_sem] theorem Sl9.cell_s6_mac_b0 {w : World} {b o : Nat} {p : Sl9} (h : Fit w b o 90) : (put w b o p.enc).cell? ⟨b, o + 60, none⟩ = some (.int .u8 p.s6.mac.b0) := (put_cell (k := 60) h rfl (by decide)).trans rfl
@[go_sem] theorem Sl9.set_s6_mac_b0 {w : World} {b o : Nat} {p : Sl9} (h : Fit w b o 90) (x : Int) : (put w b o p.enc).setCell ⟨b, o + 60, none⟩ (.int .u8 x) = put w b o ({ p with s6 := { p.s6 with mac := { p.s6.mac with b0 := x } } } : Sl9).enc := (put_setCell (k := 60) h rfl (by decide) _).trans rfl
@[go_sem ↓] theorem Sl9.get_s6_mac_b0 (p : Sl9) : p.enc.toArray[60]? = some (.int .u8 p.s6.mac.b0) := rfl
@[go_sem] theorem Sl9.at_s6_mac_b0 (p : Sl9) (h : 60 < p.enc.length) : p.enc[60] = .int .u8 p.s6.mac.b0 := rfl
@[go_sem ↓] theorem Sl9.lget_s6_mac_b0 (p : Sl9) : p.enc[60]? = some (.int .u8 p.s6.mac.b0) := rfl
@[go_sem] theorem Sl9.cell_s6_mac_b1 {w : World} {b o : Nat} {p : Sl9} (h : Fit w b o 90) : (put w b o p.enc).cell? ⟨b, o + 61, none⟩ = some (.int .u8 p.s6.mac.b1) := (put_cell (k := 61) h rfl (by decide)).trans rfl
@[go_sem] theorem Sl9.set_s6_mac_b1 {w : World} {b o : Nat} {p : Sl9} (h : Fit w b o 90) (x : Int) : (put w b o p.enc).setCell ⟨b, o + 61, none⟩ (.int .u8 x) = put w b o ({ p with s6 := { p.s6 with mac := { p.s6.mac with b1 := x } } } : Sl9).enc := (put_setCell (k := 61) h rfl (by decide) _).trans rfl
@[go_sem ↓] theorem Sl9.get_s6_mac_b1 (p : Sl9) : p.enc.toArray[61]? = some (.int .u8 p.s6.mac.b1) := rfl
@[go_sem] theorem Sl9.at_s6_mac_b1 (p : Sl9) (h : 61 < p.enc.length) : p.enc[61] = .int .u8 p.s6.mac.b1 := rfl
@[go_sem ↓] theorem Sl9.lget_s6_mac_b1 (p : Sl9) : p.enc[61]? = some (.int .u8 p.s6.mac.b1) := rfl
@[go_sem] theorem Sl9.cell_s6_mac_b2 {w : World} {b o : Nat} {p : Sl9} (h : Fit w b o 90) : (put w b o p.enc).cell? ⟨b, o + 62, none⟩ = some (.int .u8 p.s6.mac.b2) := (put_cell (k := 62) h rfl (by decide)).trans rfl
@[go_sem] theorem Sl9.set_s6_mac_b2 {w : World} {b o : Nat} {p : Sl9} (h : Fit w b o 90) (x : Int) : (put w b o p.enc).setCell ⟨b, o + 62, none⟩ (.int .u8 x) = put w b o ({ p with s6 := { p.s6 with mac := { p.s6.mac with b2 := x } } } : Sl9).enc := (put_setCell (k := 62) h rfl (by decide) _).trans rfl
@[go_sem ↓] theorem Sl9.get_s6_mac_b2 (p : Sl9) : p.enc.toArray[62]? = some (.int .u8 p.s6.mac.b2) := rfl
@[go_sem] theorem Sl9.at_s6_mac_b2 (p : Sl9) (h : 62 < p.enc.length) : p.enc[62] = .int .u8 p.s6.mac.b2 := rfl
@[go_sem ↓] theorem Sl9.lget_s6_mac_b2 (p : Sl9) : p.enc[62]? = some (.int .u8 p.s6.mac.b2) := rfl
@[go_sem] theorem Sl9.cell_s6_mac_b3 {w : World} {b o : Nat} {p : Sl9} (h : Fit w b o 90) : (put w b o p.enc).cell? ⟨b, o + 63, none⟩ = some (.int .u8 p.s6.mac.b3) := (put_cell (k := 63) h rfl (by decide)).trans rfl
@[go_sem] theorem Sl9.set_s6_mac_b3 {w : World} {b o : Nat} {p : Sl9} (h : Fit w b o 90) (x : Int) : (put w b o p.enc).setCell ⟨b, o + 63, none⟩ (.int .u8 x) = put w b o ({ p with s6 := { p.s6 with mac := { p.s6.mac with b3 := x } } } : Sl9).enc := (put_setCell (k := 63) h rfl (by decide) _).trans rfl
@[go_sem ↓] theorem Sl9.get_s6_mac_b3 (p : Sl9) : p.enc.toArray[63]? = some (.int .u8 p.s6.mac.b3) := rfl
@[go_sem] theorem Sl9.at_s6_mac_b3 (p : Sl9) (h : 63 < p.enc.length) : p.enc[63] = .int .u8 p.s6.mac.b3 := rfl
@[go_sem ↓] theorem Sl9.lget_s6_mac_b3 (p : Sl9) : p.enc[63]? = some (.int .u8 p.s6.mac.b3) := rfl
@[go_sem] theorem Sl9.cell_s6_mac_b4 {w : World} {b o : Nat} {p : Sl9} (h : Fit w b o 90) : (put w b o p.enc).cell? ⟨b, o + 64, none⟩ = some (.int .u8 p.s6.mac.b4) := (put_cell (k := 64) h rfl (by decide)).trans rfl
@[go_sem] theorem Sl9.set_s6_mac_b4 {w : World} {b o : Nat} {p : Sl9} (h : Fit w b o 90) (x : Int) : (put w b o p.enc).setCell ⟨b, o + 64, none⟩ (.int .u8 x) = put w b o ({ p with s6 := { p.s6 with mac := { p.s6.mac with b4 := x } } } : Sl9).enc := (put_setCell (k := 64) h rfl (by decide) _).trans rfl
@[go_sem ↓] theorem Sl9.get_s6_mac_b4 (p : Sl9) : p.enc.toArray[64]? = some (.int .u8 p.s6.mac.b4) := rfl
@[go_sem] theorem Sl9.at_s6_mac_b4 (p : Sl9) (h : 64 < p.enc.length) : p.enc[64] = .int .u8 p.s6.mac.b4 := rfl
@[go_sem ↓] theorem Sl9.lget_s6_mac_b4 (p : Sl9) : p.enc[64]? = some (.int .u8 p.s6.mac.b4) := rfl
@[go_sem] theorem Sl9.cell_s6_mac_b5 {w : World} {b o : Nat} {p : Sl9} (h : Fit w b o 90) : (put w b o p.enc).cell? ⟨b, o + 65, none⟩ = some (.int .u8 p.s6.mac.b5) := (put_cell (k := 65) h rfl (by decide)).trans rfl
@[go_sem] theorem Sl9.set_s6_mac_b5 {w : World} {b o : Nat} {p : Sl9} (h : Fit w b o 90) (x : Int) : (put w b o p.enc).setCell ⟨b, o + 65, none⟩ (.int .u8 x) = put w b o ({ p with s6 := { p.s6 with mac := { p.s6.mac with b5 := x } } } : Sl9).enc := (put_setCell (k := 65) h rfl (by decide) _).trans rfl
@[go_sem ↓] theorem Sl9.get_s6_mac_b5 (p : Sl9) : p.enc.toArray[65]? = some (.int .u8 p.s6.mac.b5) := rfl
@[go_sem] theorem Sl9.at_s6_mac_b5 (p : Sl9) (h : 65 < p.enc.length) : p.enc[65] = .int .u8 p.s6.mac.b5 := rfl
@[go_sem ↓] theorem Sl9.lget_s6_mac_b5 (p : Sl9) : p.enc[65]? = some (.int .u8 p.s6.mac.b5) := rfl
@[go_sem] theorem Sl9.cell_s6_port {w : World} {b o : Nat} {p : Sl9} (h : Fit w b o 90) : (put w b o p.enc).cell? ⟨b, o + 66, none⟩ = some (.int .i64 p.s6.port) := (put_cell (k := 66) h rfl (by decide)).trans rfl
@[go_sem] theorem Sl9.set_s6_port {w : World} {b o : Nat} {p : Sl9} (h : Fit w b o 90) (x : Int) : (put w b o p.enc).setCell ⟨b, o + 66, none⟩ (.int .i64 x) = put w b o ({ p with s6 := { p.s6 with port := x } } : Sl9).enc := (put_setCell (k := 66) h rfl (by decide) _).trans rfl
@[go_sem ↓] theorem Sl9.get_s6_port (p : Sl9) : p.enc.toArray[66]? = some (.int .i64 p.s6.port) := rfl
@[go_sem] theorem Sl9.at_s6_port (p : Sl9) (h : 66 < p.enc.length) : p.enc[66] = .int .i64 p.s6.port := rfl
@[go_sem ↓] theorem Sl9.lget_s6_port (p : Sl9) : p.enc[66]? = some (.int .i64 p.s6.port) := rfl
@[go_sem] theorem Sl9.cell_s6_ports {w : World} {b o : Nat} {p : Sl9} (h : Fit w b o 90) : (put w b o p.enc).cell? ⟨b, o + 67, none⟩ = some (.int .u32 p.s6.ports) := (put_cell (k := 67) h rfl (by decide)).trans rfl
@[go_sem] theorem Sl9.set_s6_ports {w : World} {b o : Nat} {p : Sl9} (h : Fit w b o 90) (x : Int) : (put w b o p.enc).setCell ⟨b, o + 67, none⟩ (.int .u32 x) = put w b o ({ p with s6 := { p.s6 with ports := x } } : Sl9).enc := (put_setCell (k := 67) h rfl (by decide) _).trans rfl
@[go_sem ↓] theorem Sl9.get_s6_ports (p : Sl9) : p.enc.toArray[67]? = some (.int .u32 p.s6.ports) := rfl
@[go_sem] theorem Sl9.at_s6_ports (p : Sl9) (h : 67 < p.enc.length) : p.enc[67] = .int .u32 p.s6.ports := rfl
@[go_sem ↓] theorem Sl9.lget_s6_ports (p : Sl9) : p.enc[67]? = some (.int .u32 p.s6.ports) := rfl
@[go_sem] theorem Sl9.cell_s6_age {w : World} {b o : Nat} {p : Sl9} (h : Fit w b o 90) : (put w b o p.enc).cell? ⟨b, o + 68, none⟩ = some (.int .i64 p.s6.age) := (put_cell (k := 68) h rfl (by decide)).trans rfl
@[go_sem] theorem Sl9.set_s6_age {w : World} {b o : Nat} {p : Sl9} (h : Fit w b o 90) (x : Int) : (put w b o p.enc).setCell ⟨b, o + 68, none⟩ (.int .i64 x) = put w b o ({ p with s6 := { p.s6 with age := x } } : Sl9).enc := (put_setCell (k := 68) h rfl (by decide) _).trans rfl
@[go_sem ↓] theorem Sl9.get_s6_age (p : Sl9) : p.enc.toArray[68]? = some (.int .i64 p.s6.age) := rfl
@[go_sem] theorem Sl9.at_s6_age (p : Sl9) (h : 68 < p.enc.length) : p.enc[68] = .int .i64 p.s6.age := rfl
@[go_sem ↓] theorem Sl9.lget_s6_age (p : Sl9) : p.enc[68]? = some (.int .i64 p.s6.age) := rfl
@[go_sem] theorem Sl9.cell_s6_static {w : World} {b o : Nat} {p : Sl9} (h : Fit w b o 90) : (put w b o p.enc).cell? ⟨b, o + 69, none⟩ = some (.bool p.s6.static) := (put_cell (k := 69) h rfl (by decide)).trans rfl
@[go_sem] theorem Sl9.set_s6_static {w : World} {b o : Nat} {p : Sl9} (h : Fit w b o 90) (x : Bool) : (put w b o p.enc).setCell ⟨b, o + 69, none⟩ (.bool x) = put w b o ({ p with s6 := { p.s6 with static := x } } : Sl9).enc := (put_setCell (k := 69) h rfl (by decide) _).trans rfl
@[go_sem ↓] theorem Sl9.get_s6_static (p : Sl9) : p.enc.toArray[69]? = some (.bool p.s6.static) := rfl
@[go_sem] theorem Sl9.at_s6_static (p : Sl9) (h : 69 < p.enc.length) : p.enc[69] = .bool p.s6.static := rfl
@[go_sem ↓] theorem Sl9.lget_s6_static (p : Sl9) : p.enc[69]? = some (.bool p.s6.static) := rfl
@[go_sem] theorem Sl9.cell_s7_mac_b0 {w : World} {b o : Nat} {p : Sl9} (h : Fit w b o 90) : (put w b o p.enc).cell? ⟨b, o + 70, none⟩ = some (.int .u8 p.s7.mac.b0) := (put_cell (k := 70) h rfl (by decide)).trans rfl
@[go_sem] theorem Sl9.set_s7_mac_b0 {w : World} {b o : Nat} {p : Sl9} (h : Fit w b o 90) (x : Int) : (put w b o p.enc).setCell ⟨b, o + 70, none⟩ (.int .u8 x) = put w b o ({ p with s7 := { p.s7 with mac := { p.s7.mac with b0 := x } } } : Sl9).enc := (put_setCell (k := 70) h rfl (by decide) _).trans rfl
@[go_sem ↓] theorem Sl9.get_s7_mac_b0 (p : Sl9) : p.enc.toArray[70]? = some (.int .u8 p.s7.mac.b0) := rfl
@[go_sem] theorem Sl9.at_s7_mac_b0 (p : Sl9) (h : 70 < p.enc.length) : p.enc[70] = .int .u8 p.s7.mac.b0 := rfl
@[go_sem ↓] theorem Sl9.lget_s7_mac_b0 (p : Sl9) : p.enc[70]? = some (.int .u8 p.s7.mac.b0) := rfl
@[go_sem] theorem Sl9.cell_s7_mac_b1 {w : World} {b o : Nat} {p : Sl9} (h : Fit w b o 90) : (put w b o p.enc).cell? ⟨b, o + 71, none⟩ = some (.int .u8 p.s7.mac.b1) := (put_cell (k := 71) h rfl (by decide)).trans rfl
@[go_sem] theorem Sl9.set_s7_mac_b1 {w : World} {b o : Nat} {p : Sl9} (h : Fit w b o 90) (x : Int) : (put w b o p.enc).setCell ⟨b, o + 71, none⟩ (.int .u8 x) = put w b o ({ p with s7 := { p.s7 with mac := { p.s7.mac with b1 := x } } } : Sl9).enc := (put_setCell (k := 71) h rfl (by decide) _).trans rfl
@[go_sem ↓] theorem Sl9.get_s7_mac_b1 (p : Sl9) : p.enc.toArray[71]? = some (.int .u8 p.s7.mac.b1) := rfl
@[go_sem] theorem Sl9.at_s7_mac_b1 (p : Sl9) (h : 71 < p.enc.length) : p.enc[71] = .int .u8 p.s7.mac.b1 := rfl
@[go_sem ↓] theorem Sl9.lget_s7_mac_b1 (p : Sl9) : p.enc[71]? = some (.int .u8 p.s7.mac.b1) := rfl
@[go_sem] theorem Sl9.cell_s7_mac_b2 {w : World} {b o : Nat} {p : Sl9} (h : Fit w b o 90) : (put w b o p.enc).cell? ⟨b, o + 72, none⟩ = some (.int .u8 p.s7.mac.b2) := (put_cell (k := 72) h rfl (by decide)).trans rfl
@[go_sem] theorem Sl9.set_s7_mac_b2 {w : World} {b o : Nat} {p : Sl9} (h : Fit w b o 90) (x : Int) : (put w b o p.enc).setCell ⟨b, o + 72, none⟩ (.int .u8 x) = put w b o ({ p with s7 := { p.s7 with mac := { p.s7.mac with b2 := x } } } : Sl9).enc := (put_setCell (k := 72) h rfl (by decide) _).trans rfl
@[go_sem ↓] theorem Sl9.get_s7_mac_b2 (p : Sl9) : p.enc.toArray[72]? = some (.int .u8 p.s7.mac.b2) := rfl
@[go_sem] theorem Sl9.at_s7_mac_b2 (p : Sl9) (h : 72 < p.enc.length) : p.enc[72] = .int .u8 p.s7.mac.b2 := rfl
@[go_sem ↓] theorem Sl9.lget_s7_mac_b2 (p : Sl9) : p.enc[72]? = some (.int .u8 p.s7.mac.b2) := rfl
@[go_sem] theorem Sl9.cell_s7_mac_b3 {w : World} {b o : Nat} {p : Sl9} (h : Fit w b o 90) : (put w b o p.enc).cell? ⟨b, o + 73, none⟩ = some (.int .u8 p.s7.mac.b3) := (put_cell (k := 73) h rfl (by decide)).trans rfl
@[go_sem] theorem Sl9.set_s7_mac_b3 {w : World} {b o : Nat} {p : Sl9} (h : Fit w b o 90) (x : Int) : (put w b o p.enc).setCell ⟨b, o + 73, none⟩ (.int .u8 x) = put w b o ({ p with s7 := { p.s7 with mac := { p.s7.mac with b3 := x } } } : Sl9).enc := (put_setCell (k := 73) h rfl (by decide) _).trans rfl
@[go_sem ↓] theorem Sl9.get_s7_mac_b3 (p : Sl9) : p.enc.toArray[73]? = some (.int .u8 p.s7.mac.b3) := rfl
@[go_sem] theorem Sl9.at_s7_mac_b3 (p : Sl9) (h : 73 < p.enc.length) : p.enc[73] = .int .u8 p.s7.mac.b3 := rfl
@[go_sem ↓] theorem Sl9.lget_s7_mac_b3 (p : Sl9) : p.enc[73]? = some (.int .u8 p.s7.mac.b3) := rfl
@[go_sem] theorem Sl9.cell_s7_mac_b4 {w : World} {b o : Nat} {p : Sl9} (h : Fit w b o 90) : (put w b o p.enc).cell? ⟨b, o + 74, none⟩ = some (.int .u8 p.s7.mac.b4) := (put_cell (k := 74) h rfl (by decide)).trans rfl
@[go_sem] theorem Sl9.set_s7_mac_b4 {w : World} {b o : Nat} {p : Sl9} (h : Fit w b o 90) (x : Int) : (put w b o p.enc).setCell ⟨b, o + 74, none⟩ (.int .u8 x) = put w b o ({ p with s7 := { p.s7 with mac := { p.s7.mac with b4 := x } } } : Sl9).enc := (put_setCell (k := 74) h rfl (by decide) _).trans rfl
@[go_sem ↓] theorem Sl9.get_s7_mac_b4 (p : Sl9) : p.enc.toArray[74]? = some (.int .u8 p.s7.mac.b4) := rfl
@[go_sem] theorem Sl9.at_s7_mac_b4 (p : Sl9) (h : 74 < p.enc.length) : p.enc[74] = .int .u8 p.s7.mac.b4 := rfl
@[go_sem ↓] theorem Sl9.lget_s7_mac_b4 (p : Sl9) : p.enc[74]? = some (.int .u8 p.s7.mac.b4) := rfl
@[go_sem] theorem Sl9.cell_s7_mac_b5 {w : World} {b o : Nat} {p : Sl9} (h : Fit w b o 90) : (put w b o p.enc).cell? ⟨b, o + 75, none⟩ = some (.int .u8 p.s7.mac.b5) := (put_cell (k := 75) h rfl (by decide)).trans rfl
@[go_sem] theorem Sl9.set_s7_mac_b5 {w : World} {b o : Nat} {p : Sl9} (h : Fit w b o 90) (x : Int) : (put w b o p.enc).setCell ⟨b, o + 75, none⟩ (.int .u8 x) = put w b o ({ p with s7 := { p.s7 with mac := { p.s7.mac with b5 := x } } } : Sl9).enc := (put_setCell (k := 75) h rfl (by decide) _).trans rfl
@[go_sem ↓] theorem Sl9.get_s7_mac_b5 (p : Sl9) : p.enc.toArray[75]? = some (.int .u8 p.s7.mac.b5) := rfl
@[go_sem] theorem Sl9.at_s7_mac_b5 (p : Sl9) (h : 75 < p.enc.length) : p.enc[75] = .int .u8 p.s7.mac.b5 := rfl
@[go_sem ↓] theorem Sl9.lget_s7_mac_b5 (p : Sl9) : p.enc[75]? = some (.int .u8 p.s7.mac.b5) := rfl
@[go_sem] theorem Sl9.cell_s7_port {w : World} {b o : Nat} {p : Sl9} (h : Fit w b o 90) : (put w b o p.enc).cell? ⟨b, o + 76, none⟩ = some (.int .i64 p.s7.port) := (put_cell (k := 76) h rfl (by decide)).trans rfl
@[go_sem] theorem Sl9.set_s7_port {w : World} {b o : Nat} {p : Sl9} (h : Fit w b o 90) (x : Int) : (put w b o p.enc).setCell ⟨b, o + 76, none⟩ (.int .i64 x) = put w b o ({ p with s7 := { p.s7 with port := x } } : Sl9).enc := (put_setCell (k := 76) h rfl (by decide) _).trans rfl
@[go_sem ↓] theorem Sl9.get_s7_port (p : Sl9) : p.enc.toArray[76]? = some (.int .i64 p.s7.port) := rfl
@[go_sem] theorem Sl9.at_s7_port (p : Sl9) (h : 76 < p.enc.length) : p.enc[76] = .int .i64 p.s7.port := rfl
@[go_sem ↓] theorem Sl9.lget_s7_port (p : Sl9) : p.enc[76]? = some (.int .i64 p.s7.port) := rfl
@[go_sem] theorem Sl9.cell_s7_ports {w : World} {b o : Nat} {p : Sl9} (h : Fit w b o 90) : (put w b o p.enc).cell? ⟨b, o + 77, none⟩ = some (.int .u32 p.s7.ports) := (put_cell (k := 77) h rfl (by decide)).trans rfl
@[go_sem] theorem Sl9.set_s7_ports {w : World} {b o : Nat} {p : Sl9} (h : Fit w b o 90) (x : Int) : (put w b o p.enc).setCell ⟨b, o + 77, none⟩ (.int .u32 x) = put w b o ({ p with s7 := { p.s7 with ports := x } } : Sl9).enc := (put_setCell (k := 77) h rfl (by decide) _).trans rfl
@[go_sem ↓] theorem Sl9.get_s7_ports (p : Sl9) : p.enc.toArray[77]? = some (.int .u32 p.s7.ports) := rfl
@[go_sem] theorem Sl9.at_s7_ports (p : Sl9) (h : 77 < p.enc.length) : p.enc[77] = .int .u32 p.s7.ports := rfl
@[go_sem ↓] theorem Sl9.lget_s7_ports (p : Sl9) : p.enc[77]? = some (.int .u32 p.s7.ports) := rfl
@[go_sem] theorem Sl9.cell_s7_age {w : World} {b o : Nat} {p : Sl9} (h : Fit w b o 90) : (put w b o p.enc).cell? ⟨b, o + 78, none⟩ = some (.int .i64 p.s7.age) := (put_cell (k := 78) h rfl (by decide)).trans rfl
@[go_sem] theorem Sl9.set_s7_age {w : World} {b o : Nat} {p : Sl9} (h : Fit w b o 90) (x : Int) : (put w b o p.enc).setCell ⟨b, o + 78, none⟩ (.int .i64 x) = put w b o ({ p with s7 := { p.s7 with age := x } } : Sl9).enc := (put_setCell (k := 78) h rfl (by decide) _).trans rfl
@[go_sem ↓] theorem Sl9.get_s7_age (p : Sl9) : p.enc.toArray[78]? = some (.int .i64 p.s7.age) := rfl
@[go_sem] theorem Sl9.at_s7_age (p : Sl9) (h : 78 < p.enc.length) : p.enc[78] = .int .i64 p.s7.age := rfl
@[go_sem ↓] theorem Sl9.lget_s7_age (p : Sl9) : p.enc[78]? = some (.int .i64 p.s7.age) := rfl
@[go_sem] theorem Sl9.cell_s7_static {w : World} {b o : Nat} {p : Sl9} (h : Fit w b o 90) : (put w b o p.enc).cell? ⟨b, o + 79, none⟩ = some (.bool p.s7.static) := (put_cell (k := 79) h rfl (by decide)).trans rfl
@[go_sem] theorem Sl9.set_s7_static {w : World} {b o : Nat} {p : Sl9} (h : Fit w b o 90) (x : Bool) : (put w b o p.enc).setCell ⟨b, o + 79, none⟩ (.bool x) = put w b o ({ p with s7 := { p.s7 with static := x } } : Sl9).enc := (put_setCell (k := 79) h rfl (by decide) _).trans rfl
@[go_sem ↓] theorem Sl9.get_s7_static (p : Sl9) : p.enc.toArray[79]? = some (.bool p.s7.static) := rfl
@[go_sem] theorem Sl9.at_s7_static (p : Sl9) (h : 79 < p.enc.length) : p.enc[79] = .bool p.s7.static := rfl
@[go_sem ↓] theorem Sl9.lget_s7_static (p : Sl9) : p.enc[79]? = some (.bool p.s7.static) := rfl
@[go_sem] theorem Sl9.cell_s8_mac_b0 {w : World} {b o : Nat} {p : Sl9} (h : Fit w b o 90) : (put w b o p.enc).cell? ⟨b, o + 80, none⟩ = some (.int .u8 p.s8.mac.b0) := (put_cell (k := 80) h rfl (by decide)).trans rfl
@[go_sem] theorem Sl9.set_s8_mac_b0 {w : World} {b o : Nat} {p : Sl9} (h : Fit w b o 90) (x : Int) : (put w b o p.enc).setCell ⟨b, o + 80, none⟩ (.int .u8 x) = put w b o ({ p with s8 := { p.s8 with mac := { p.s8.mac with b0 := x } } } : Sl9).enc := (put_setCell (k := 80) h rfl (by decide) _).trans rfl
@[go_sem ↓] theorem Sl9.get_s8_mac_b0 (p : Sl9) : p.enc.toArray[80]? = some (.int .u8 p.s8.mac.b0) := rfl
@[go_sem] theorem Sl9.at_s8_mac_b0 (p : Sl9) (h : 80 < p.enc.length) : p.enc[80] = .int .u8 p.s8.mac.b0 := rfl
@[go_sem ↓] theorem Sl9.lget_s8_mac_b0 (p : Sl9) : p.enc[80]? = some (.int .u8 p.s8.mac.b0) := rfl
@[go_sem] theorem Sl9.cell_s8_mac_b1 {w : World} {b o : Nat} {p : Sl9} (h : Fit w b o 90) : (put w b o p.enc).cell? ⟨b, o + 81, none⟩ = some (.int .u8 p.s8.mac.b1) := (put_cell (k := 81) h rfl (by decide)).trans rfl
@[go_sem] theorem Sl9.set_s8_mac_b1 {w : World} {b o : Nat} {p : Sl9} (h : Fit w b o 90) (x : Int) : (put w b o p.enc).setCell ⟨b, o + 81, none⟩ (.int .u8 x) = put w b o ({ p with s8 := { p.s8 with mac := { p.s8.mac with b1 := x } } } : Sl9).enc := (put_setCell (k := 81) h rfl (by decide) _).trans rfl
@[go_sem ↓] theorem Sl9.get_s8_mac_b1 (p : Sl9) : p.enc.toArray[81]? = some (.int .u8 p.s8.mac.b1) := rfl
@[go_sem] theorem Sl9.at_s8_mac_b1 (p : Sl9) (h : 81 < p.enc.length) : p.enc[81] = .int .u8 p.s8.mac.b1 := rfl
@[go_sem ↓] theorem Sl9.lget_s8_mac_b1 (p : Sl9) : p.enc[81]? = some (.int .u8 p.s8.mac.b1) := rfl
@[go_sem] theorem Sl9.cell_s8_mac_b2 {w : World} {b o : Nat} {p : Sl9} (h : Fit w b o 90) : (put w b o p.enc).cell? ⟨b, o + 82, none⟩ = some (.int .u8 p.s8.mac.b2) := (put_cell (k := 82) h rfl (by decide)).trans rfl
@[go_sem] theorem Sl9.set_s8_mac_b2 {w : World} {b o : Nat} {p : Sl9} (h : Fit w b o 90) (x : Int) : (put w b o p.enc).setCell ⟨b, o + 82, none⟩ (.int .u8 x) = put w b o ({ p with s8 := { p.s8 with mac := { p.s8.mac with b2 := x } } } : Sl9).enc := (put_setCell (k := 82) h rfl (by decide) _).trans rfl
@[go_sem ↓] theorem Sl9.get_s8_mac_b2 (p : Sl9) : p.enc.toArray[82]? = some (.int .u8 p.s8.mac.b2) := rfl
@[go_sem] theorem Sl9.at_s8_mac_b2 (p : Sl9) (h : 82 < p.enc.length) : p.enc[82] = .int .u8 p.s8.mac.b2 := rfl
@[go_sem ↓] theorem Sl9.lget_s8_mac_b2 (p : Sl9) : p.enc[82]? = some (.int .u8 p.s8.mac.b2) := rfl
@[go_sem] theorem Sl9.cell_s8_mac_b3 {w : World} {b o : Nat} {p : Sl9} (h : Fit w b o 90) : (put w b o p.enc).cell? ⟨b, o + 83, none⟩ = some (.int .u8 p.s8.mac.b3) := (put_cell (k := 83) h rfl (by decide)).trans rfl
@[go_sem] theorem Sl9.set_s8_mac_b3 {w : World} {b o : Nat} {p : Sl9} (h : Fit w b o 90) (x : Int) : (put w b o p.enc).setCell ⟨b, o + 83, none⟩ (.int .u8 x) = put w b o ({ p with s8 := { p.s8 with mac := { p.s8.mac with b3 := x } } } : Sl9).enc := (put_setCell (k := 83) h rfl (by decide) _).trans rfl
@[go_sem ↓] theorem Sl9.get_s8_mac_b3 (p : Sl9) : p.enc.toArray[83]? = some (.int .u8 p.s8.mac.b3) := rfl
@[go_sem] theorem Sl9.at_s8_mac_b3 (p : Sl9) (h : 83 < p.enc.length) : p.enc[83] = .int .u8 p.s8.mac.b3 := rfl
@[go_sem ↓] theorem Sl9.lget_s8_mac_b3 (p : Sl9) : p.enc[83]? = some (.int .u8 p.s8.mac.b3) := rfl
@[go_sem] theorem Sl9.cell_s8_mac_b4 {w : World} {b o : Nat} {p : Sl9} (h : Fit w b o 90) : (put w b o p.enc).cell? ⟨b, o + 84, none⟩ = some (.int .u8 p.s8.mac.b4) := (put_cell (k := 84) h rfl (by decide)).trans rfl
@[go_sem] theorem Sl9.set_s8_mac_b4 {w : World} {b o : Nat} {p : Sl9} (h : Fit w b o 90) (x : Int) : (put w b o p.enc).setCell ⟨b, o + 84, none⟩ (.int .u8 x) = put w b o ({ p with s8 := { p.s8 with mac := { p.s8.mac with b4 := x } } } : Sl9).enc := (put_setCell (k := 84) h rfl (by decide) _).trans rfl
@[go_sem ↓] theorem Sl9.get_s8_mac_b4 (p : Sl9) : p.enc.toArray[84]? = some (.int .u8 p.s8.mac.b4) := rfl
@[go_sem] theorem Sl9.at_s8_mac_b4 (p : Sl9) (h : 84 < p.enc.length) : p.enc[84] = .int .u8 p.s8.mac.b4 := rfl
@[go_sem ↓] theorem Sl9.lget_s8_mac_b4 (p : Sl9) : p.enc[84]? = some (.int .u8 p.s8.mac.b4) := rfl
@[go_sem] theorem Sl9.cell_s8_mac_b5 {w : World} {b o : Nat} {p : Sl9} (h : Fit w b o 90) : (put w b o p.enc).cell? ⟨b, o + 85, none⟩ = some (.int .u8 p.s8.mac.b5) := (put_cell (k := 85) h rfl (by decide)).trans rfl
@[go_sem] theorem Sl9.set_s8_mac_b5 {w : World} {b o : Nat} {p : Sl9} (h : Fit w b o 90) (x : Int) : (put w b o p.enc).setCell ⟨b, o + 85, none⟩ (.int .u8 x) = put w b o ({ p with s8 := { p.s8 with mac := { p.s8.mac with b5 := x } } } : Sl9).enc := (put_setCell (k := 85) h rfl (by decide) _).trans rfl
@[go_sem ↓] theorem Sl9.get_s8_mac_b5 (p : Sl9) : p.enc.toArray[85]? = some (.int .u8 p.s8.mac.b5) := rfl
@[go_sem] theorem Sl9.at_s8_mac_b5 (p : Sl9) (h : 85 < p.enc.length) : p.enc[85] = .int .u8 p.s8.mac.b5 := rfl
@[go_sem ↓] theorem Sl9.lget_s8_mac_b5 (p : Sl9) : p.enc[85]? = some (.int .u8 p.s8.mac.b5) := rfl
@[go_sem] theorem Sl9.cell_s8_port {w : World} {b o : Nat} {p : Sl9} (h : Fit w b o 90) : (put w b o p.enc).cell? ⟨b, o + 86, none⟩ = some (.int .i64 p.s8.port) := (put_cell (k := 86) h rfl (by decide)).trans rfl
@[go_sem] theorem Sl9.set_s8_port {w : World} {b o : Nat} {p : Sl9} (h : Fit w b o 90) (x : Int) : (put w b o p.enc).setCell ⟨b, o + 86, none⟩ (.int .i64 x) = put w b o ({ p with s8 := { p.s8 with port := x } } : Sl9).enc := (put_setCell (k := 86) h rfl (by decide) _).trans rfl
@[go_sem ↓] theorem Sl9.get_s8_port (p : Sl9) : p.enc.toArray[86]? = some (.int .i64 p.s8.port) := rfl
@[go_sem] theorem Sl9.at_s8_port (p : Sl9) (h : 86 < p.enc.length) : p.enc[86] = .int .i64 p.s8.port := rfl
@[go_sem ↓] theorem Sl9.lget_s8_port (p : Sl9) : p.enc[86]? = some (.int .i64 p.s8.port) := rfl
@[go_sem] theorem Sl9.cell_s8_ports {w : World} {b o : Nat} {p : Sl9} (h : Fit w b o 90) : (put w b o p.enc).cell? ⟨b, o + 87, none⟩ = some (.int .u32 p.s8.ports) := (put_cell (k := 87) h rfl (by decide)).trans rfl
@[go_sem] theorem Sl9.set_s8_ports {w : World} {b o : Nat} {p : Sl9} (h : Fit w b o 90) (x : Int) : (put w b o p.enc).setCell ⟨b, o + 87, none⟩ (.int .u32 x) = put w b o ({ p with s8 := { p.s8 with ports := x } } : Sl9).enc := (put_setCell (k := 87) h rfl (by decide) _).trans rfl
@[go_sem ↓] theorem Sl9.get_s8_ports (p : Sl9) : p.enc.toArray[87]? = some (.int .u32 p.s8.ports) := rfl
@[go_sem] theorem Sl9.at_s8_ports (p : Sl9) (h : 87 < p.enc.length) : p.enc[87] = .int .u32 p.s8.ports := rfl
@[go_sem ↓] theorem Sl9.lget_s8_ports (p : Sl9) : p.enc[87]? = some (.int .u32 p.s8.ports) := rfl
@[go_sem] theorem Sl9.cell_s8_age {w : World} {b o : Nat} {p : Sl9} (h : Fit w b o 90) : (put w b o p.enc).cell? ⟨b, o + 88, none⟩ = some (.int .i64 p.s8.age) := (put_cell (k := 88) h rfl (by decide)).trans rfl
@[go_sem] theorem Sl9.set_s8_age {w : World} {b o : Nat} {p : Sl9} (h : Fit w b o 90) (x : Int) : (put w b o p.enc).setCell ⟨b, o + 88, none⟩ (.int .i64 x) = put w b o ({ p with s8 := { p.s8 with age := x } } : Sl9).enc := (put_setCell (k := 88) h rfl (by decide) _).trans rfl
@[go_sem ↓] theorem Sl9.get_s8_age (p : Sl9) : p.enc.toArray[88]? = some (.int .i64 p.s8.age) := rfl
@[go_sem] theorem Sl9.at_s8_age (p : Sl9) (h : 88 < p.enc.length) : p.enc[88] = .int .i64 p.s8.age := rfl
@[go_sem ↓] theorem Sl9.lget_s8_age (p : Sl9) : p.enc[88]? = some (.int .i64 p.s8.age) := rfl
@[go_sem] theorem Sl9.cell_s8_static {w : World} {b o : Nat} {p : Sl9} (h : Fit w b o 90) : (put w b o p.enc).cell? ⟨b, o + 89, none⟩ = some (.bool p.s8.static) := (put_cell (k := 89) h rfl (by decide)).trans rfl
@[go_sem] theorem Sl9.set_s8_static {w : World} {b o : Nat} {p : Sl9} (h : Fit w b o 90) (x : Bool) : (put w b o p.enc).setCell ⟨b, o + 89, none⟩ (.bool x) = put w b o ({ p with s8 := { p.s8 with static := x } } : Sl9).enc := (put_setCell (k := 89) h rfl (by decide) _).trans rfl
@[go_sem ↓] theorem Sl9.get_s8_static (p : Sl9) : p.enc.toArray[89]? = some (.bool p.s8.static) := rfl
@[go_sem] theorem Sl9.at_s8_static (p : Sl9) (h : 89 < p.enc.length) : p.enc[89] = .bool p.s8.static := rfl
@[go_sem ↓] theorem Sl9.lget_s8_static (p : Sl9) : p.enc[89]? = some (.bool p.s8.static) := rfl
@[go_sem] theorem Sl9.frozen {w : World} {b o k : Nat} {p : Sl9} (h : Fit w b o 90) : (put w b o p.enc).frozen? ⟨b, k, none⟩ = false := put_frozen h
@[go_sem ↓] theorem Sl9.rd {w : World} {b o : Nat} {p : Sl9} (h : Fit w b o 90) : rdCells (put w b o p.enc) ⟨b, o, none⟩ 0 90 = some p.enc := rdCells_put h rfl
@[go_sem ↓] theorem Sl9.wr {w : World} {b o : Nat} {p q : Sl9} (h : Fit w b o 90) : wrCells (put w b o p.enc) ⟨b, o, none⟩ 0 q.enc = some (put w b o q.enc) := wrCells_put h rfl rfl rfl
@[go_sem ↓] theorem Sl9.store (P : Program) (a : Addr) (q : Sl9) (w : World) : (storeCells a q.enc 0).run P w = (match wrCells w a 0 q.enc with | some w' => .ok () w' | none => storeSlow P a q.enc w) := store_wr P a q.enc w
@[go_sem ↓] theorem Sl9.rd_s0 {w : World} {b o : Nat} {p : Sl9} (h : Fit w b o 90) : rdCells (put w b o p.enc) ⟨b, o, none⟩ 0 10 = some p.s0.enc := rdCells_put_sub (k := 0) h rfl rfl rfl (by decide)
@[go_sem ↓] theorem Sl9.wr_s0 {w : World} {b o : Nat} {p : Sl9} {q : Ent} (h : Fit w b o 90) : wrCells (put w b o p.enc) ⟨b, o, none⟩ 0 q.enc = some (put w b o ({ p with s0 := q } : Sl9).enc) := wrCells_put_sub (k := 0) (m := 10) h rfl rfl (by decide) rfl rfl
@[go_sem] theorem Sl9.dt_s0 (p : Sl9) : (p.enc.drop 0).take 10 = p.s0.enc := rfl
@[go_sem ↓] theorem Sl9.part_s0 (p : Sl9) : p.enc.toArray.extract 0 10 = p.s0.enc.toArray := rfl
@[go_sem ↓] theorem Sl9.rd_s0_mac {w : World} {b o : Nat} {p : Sl9} (h : Fit w b o 90) : rdCells (put w b o p.enc) ⟨b, o, none⟩ 0 6 = some p.s0.mac.enc := rdCells_put_sub (k := 0) h rfl rfl rfl (by decide)
@[go_sem ↓] theorem Sl9.wr_s0_mac {w : World} {b o : Nat} {p : Sl9} {q : Mac} (h : Fit w b o 90) : wrCells (put w b o p.enc) ⟨b, o, none⟩ 0 q.enc = some (put w b o ({ p with s0 := { p.s0 with mac := q } } : Sl9).enc) := wrCells_put_sub (k := 0) (m := 6) h rfl rfl (by decide) rfl rfl
@[go_sem] theorem Sl9.dt_s0_mac (p : Sl9) : (p.enc.drop 0).take 6 = p.s0.mac.enc := rfl
@[go_sem ↓] theorem Sl9.part_s0_mac (p : Sl9) : p.enc.toArray.extract 0 6 = p.s0.mac.enc.toArray := rfl
@[go_sem ↓] theorem Sl9.rd_s1 {w : World} {b o : Nat} {p : Sl9} (h : Fit w b o 90) : rdCells (put w b o p.enc) ⟨b, o + 10, none⟩ 0 10 = some p.s1.enc := rdCells_put_sub (k := 10) h rfl rfl rfl (by decide)
@[go_sem ↓] theorem Sl9.wr_s1 {w : World} {b o : Nat} {p : Sl9} {q : Ent} (h : Fit w b o 90) : wrCells (put w b o p.enc) ⟨b, o + 10, none⟩ 0 q.enc = some (put w b o ({ p with s1 := q } : Sl9).enc) := wrCells_put_sub (k := 10) (m := 10) h rfl rfl (by decide) rfl rfl
@[go_sem] theorem Sl9.dt_s1 (p : Sl9) : (p.enc.drop 10).take 10 = p.s1.enc := rfl
@[go_sem ↓] theorem Sl9.part_s1 (p : Sl9) : p.enc.toArray.extract 10 20 = p.s1.enc.toArray := rfl
@[go_sem ↓] theorem Sl9.rd_s1_mac {w : World} {b o : Nat} {p : Sl9} (h : Fit w b o 90) : rdCells (put w b o p.enc) ⟨b, o + 10, none⟩ 0 6 = some p.s1.mac.enc := rdCells_put_sub (k := 10) h rfl rfl rfl (by decide)
@[go_sem ↓] theorem Sl9.wr_s1_mac {w : World} {b o : Nat} {p : Sl9} {q : Mac} (h : Fit w b o 90) : wrCells (put w b o p.enc) ⟨b, o + 10, none⟩ 0 q.enc = some (put w b o ({ p with s1 := { p.s1 with mac := q } } : Sl9).enc) := wrCells_put_sub (k := 10) (m := 6) h rfl rfl (by decide) rfl rfl
@[go_sem] theorem Sl9.dt_s1_mac (p : Sl9) : (p.enc.drop 10).take 6 = p.s1.mac.enc := rfl
@[go_sem ↓] theorem Sl9.part_s1_mac (p : Sl9) : p.enc.toArray.extract 10 16 = p.s1.mac.enc.toArray := rfl
@[go_sem ↓] theorem Sl9.rd_s2 {w : World} {b o : Nat} {p : Sl9} (h : Fit w b o 90) : rdCells (put w b o p.enc) ⟨b, o + 20, none⟩ 0 10 = some p.s2.enc := rdCells_put_sub (k := 20) h rfl rfl rfl (by decide)
@[go_sem ↓] theorem Sl9.wr_s2 {w : World} {b o : Nat} {p : Sl9} {q : Ent} (h : Fit w b o 90) : wrCells (put w b o p.enc) ⟨b, o + 20, none⟩ 0 q.enc = some (put w b o ({ p with s2 := q } : Sl9).enc) := wrCells_put_sub (k := 20) (m := 10) h rfl rfl (by decide) rfl rfl
@[go_sem] theorem Sl9.dt_s2 (p : Sl9) : (p.enc.drop 20).take 10 = p.s2.enc := rfl
@[go_sem ↓] theorem Sl9.part_s2 (p : Sl9) : p.enc.toArray.extract 20 30 = p.s2.enc.toArray := rfl
@[go_sem ↓] theorem Sl9.rd_s2_mac {w : World} {b o : Nat} {p : Sl9} (h : Fit w b o 90) : rdCells (put w b o p.enc) ⟨b, o + 20, none⟩ 0 6 = some p.s2.mac.enc := rdCells_put_sub (k := 20) h rfl rfl rfl (by decide)
@[go_sem ↓] theorem Sl9.wr_s2_mac {w : World} {b o : Nat} {p : Sl9} {q : Mac} (h : Fit w b o 90) : wrCells (put w b o p.enc) ⟨b, o + 20, none⟩ 0 q.enc = some (put w b o ({ p with s2 := { p.s2 with mac := q } } : Sl9).enc) := wrCells_put_sub (k := 20) (m := 6) h rfl rfl (by decide) rfl rfl
@[go_sem] theorem Sl9.dt_s2_mac (p : Sl9) : (p.enc.drop 20).take 6 = p.s2.mac.enc := rfl
@[go_sem ↓] theorem Sl9.part_s2_mac (p : Sl9) : p.enc.toArray.extract 20 26 = p.s2.mac.enc.toArray := rfl
@[go_sem ↓] theorem Sl9.rd_s3 {w : World} {b o : Nat} {p : Sl9} (h : Fit w b o 90) : rdCells (put w b o p.enc) ⟨b, o + 30, none⟩ 0 10 = some p.s3.enc := rdCells_put_sub (k := 30) h rfl rfl rfl (by decide)
@[go_sem ↓] theorem Sl9.wr_s3 {w : World} {b o : Nat} {p : Sl9} {q : Ent} (h : Fit w b o 90) : wrCells (put w b o p.enc) ⟨b, o + 30, none⟩ 0 q.enc = some (put w b o ({ p with s3 := q } : Sl9).enc) := wrCells_put_sub (k := 30) (m := 10) h rfl rfl (by decide) rfl rfl
@[go_sem] theorem Sl9.dt_s3 (p : Sl9) : (p.enc.drop 30).take 10 = p.s3.enc := rfl
@[go_sem ↓] theorem Sl9.part_s3 (p : Sl9) : p.enc.toArray.extract 30 40 = p.s3.enc.toArray := rfl
@[go_sem ↓] theorem Sl9.rd_s3_mac {w : World} {b o : Nat} {p : Sl9} (h : Fit w b o 90) : rdCells (put w b o p.enc) ⟨b, o + 30, none⟩ 0 6 = some p.s3.mac.enc := rdCells_put_sub (k := 30) h rfl rfl rfl (by decide)
@[go_sem ↓] theorem Sl9.wr_s3_mac {w : World} {b o : Nat} {p : Sl9} {q : Mac} (h : Fit w b o 90) : wrCells (put w b o p.enc) ⟨b, o + 30, none⟩ 0 q.enc = some (put w b o ({ p with s3 := { p.s3 with mac := q } } : Sl9).enc) := wrCells_put_sub (k := 30) (m := 6) h rfl rfl (by decide) rfl rfl
@[go_sem] theorem Sl9.dt_s3_mac (p : Sl9) : (p.enc.drop 30).take 6 = p.s3.mac.enc := rfl
@[go_sem ↓] theorem Sl9.part_s3_mac (p : Sl9) : p.enc.toArray.extract 30 36 = p.s3.mac.enc.toArray := rfl
@[go_sem ↓] theorem Sl9.rd_s4 {w : World} {b o : Nat} {p : Sl9} (h : Fit w b o 90) : rdCells (put w b o p.enc) ⟨b, o + 40, none⟩ 0 10 = some p.s4.enc := rdCells_put_sub (k := 40) h rfl rfl rfl (by decide)
@[go_sem ↓] theorem Sl9.wr_s4 {w : World} {b o : Nat} {p : Sl9} {q : Ent} (h : Fit w b o 90) : wrCells (put w b o p.enc) ⟨b, o + 40, none⟩ 0 q.enc = some (put w b o ({ p with s4 := q } : Sl9).enc) := wrCells_put_sub (k := 40) (m := 10) h rfl rfl (by decide) rfl rfl
@[go_sem] theorem Sl9.dt_s4 (p : Sl9) : (p.enc.drop 40).take 10 = p.s4.enc := rfl
@[go_sem ↓] theorem Sl9.part_s4 (p : Sl9) : p.enc.toArray.extract 40 50 = p.s4.enc.toArray := rfl
@[go_sem ↓] theorem Sl9.rd_s4_mac {w : World} {b o : Nat} {p : Sl9} (h : Fit w b o 90) : rdCells (put w b o p.enc) ⟨b, o + 40, none⟩ 0 6 = some p.s4.mac.enc := rdCells_put_sub (k := 40) h rfl rfl rfl (by decide)
@[go_sem ↓] theorem Sl9.wr_s4_mac {w : World} {b o : Nat} {p : Sl9} {q : Mac} (h : Fit w b o 90) : wrCells (put w b o p.enc) ⟨b, o + 40, none⟩ 0 q.enc = some (put w b o ({ p with s4 := { p.s4 with mac := q } } : Sl9).enc) := wrCells_put_sub (k := 40) (m := 6) h rfl rfl (by decide) rfl rfl
@[go_sem] theorem Sl9.dt_s4_mac (p : Sl9) : (p.enc.drop 40).take 6 = p.s4.mac.enc := rfl
@[go_sem ↓] theorem Sl9.part_s4_mac (p : Sl9) : p.enc.toArray.extract 40 46 = p.s4.mac.enc.toArray := rfl
@[go_sem ↓] theorem Sl9.rd_s5 {w : World} {b o : Nat} {p : Sl9} (h : Fit w b o 90) : rdCells (put w b o p.enc) ⟨b, o + 50, none⟩ 0 10 = some p.s5.enc := rdCells_put_sub (k := 50) h rfl rfl rfl (by decide)
@[go_sem ↓] theorem Sl9.wr_s5 {w : World} {b o : Nat} {p : Sl9} {q : Ent} (h : Fit w b o 90) : wrCells (put w b o p.enc) ⟨b, o + 50, none⟩ 0 q.enc = some (put w b o ({ p with s5 := q } : Sl9).enc) := wrCells_put_sub (k := 50) (m := 10) h rfl rfl (by decide) rfl rfl
@[go_sem] theorem Sl9.dt_s5 (p : Sl9) : (p.enc.drop 50).take 10 = p.s5.enc := rfl
@[go_sem ↓] theorem Sl9.part_s5 (p : Sl9) : p.enc.toArray.extract 50 60 = p.s5.enc.toArray := rfl
@[go_sem ↓] theorem Sl9.rd_s5_mac {w : World} {b o : Nat} {p : Sl9} (h : Fit w b o 90) : rdCells (put w b o p.enc) ⟨b, o + 50, none⟩ 0 6 = some p.s5.mac.enc := rdCells_put_sub (k := 50) h rfl rfl rfl (by decide)
@[go_sem ↓] theorem Sl9.wr_s5_mac {w : World} {b o : Nat} {p : Sl9} {q : Mac} (h : Fit w b o 90) : wrCells (put w b o p.enc) ⟨b, o + 50, none⟩ 0 q.enc = some (put w b o ({ p with s5 := { p.s5 with mac := q } } : Sl9).enc) := wrCells_put_sub (k := 50) (m := 6) h rfl rfl (by decide) rfl rfl
@[go_sem] theorem Sl9.dt_s5_mac (p : Sl9) : (p.enc.drop 50).take 6 = p.s5.mac.enc := rfl
@[go_sem ↓] theorem Sl9.part_s5_mac (p : Sl9) : p.enc.toArray.extract 50 56 = p.s5.mac.enc.toArray := rfl
@[go_sem ↓] theorem Sl9.rd_s6 {w : World} {b o : Nat} {p : Sl9} (h : Fit w b o 90) : rdCells (put w b o p.enc) ⟨b, o + 60, none⟩ 0 10 = some p.s6.enc := rdCells_put_sub (k := 60) h rfl rfl rfl (by decide)
@[go_sem ↓] theorem Sl9.wr_s6 {w : World} {b o : Nat} {p : Sl9} {q : Ent} (h : Fit w b o 90) : wrCells (put w b o p.enc) ⟨b, o + 60, none⟩ 0 q.enc = some (put w b o ({ p with s6 := q } : Sl9).enc) := wrCells_put_sub (k := 60) (m := 10) h rfl rfl (by decide) rfl rfl
@[go_sem] theorem Sl9.dt_s6 (p : Sl9) : (p.enc.drop 60).take 10 = p.s6.enc := rfl
@[go_sem ↓] theorem Sl9.part_s6 (p : Sl9) : p.enc.toArray.extract 60 70 = p.s6.enc.toArray := rfl
@[go_sem ↓] theorem Sl9.rd_s6_mac {w : World} {b o : Nat} {p : Sl9} (h : Fit w b o 90) : rdCells (put w b o p.enc) ⟨b, o + 60, none⟩ 0 6 = some p.s6.mac.enc := rdCells_put_sub (k := 60) h rfl rfl rfl (by decide)
@[go_sem ↓] theorem Sl9.wr_s6_mac {w : World} {b o : Nat} {p : Sl9} {q : Mac} (h : Fit w b o 90) : wrCells (put w b o p.enc) ⟨b, o + 60, none⟩ 0 q.enc = some (put w b o ({ p with s6 := { p.s6 with mac := q } } : Sl9).enc) := wrCells_put_sub (k := 60) (m := 6) h rfl rfl (by decide) rfl rfl
@[go_sem] theorem Sl9.dt_s6_mac (p : Sl9) : (p.enc.drop 60).take 6 = p.s6.mac.enc := rfl
@[go_sem ↓] theorem Sl9.part_s6_mac (p : Sl9) : p.enc.toArray.extract 60 66 = p.s6.mac.enc.toArray := rfl
@[go_sem ↓] theorem Sl9.rd_s7 {w : World} {b o : Nat} {p : Sl9} (h : Fit w b o 90) : rdCells (put w b o p.enc) ⟨b, o + 70, none⟩ 0 10 = some p.s7.enc := rdCells_put_sub (k := 70) h rfl rfl rfl (by decide)
@[go_sem ↓] theorem Sl9.wr_s7 {w : World} {b o : Nat} {p : Sl9} {q : Ent} (h : Fit w b o 90) : wrCells (put w b o p.enc) ⟨b, o + 70, none⟩ 0 q.enc = some (put w b o ({ p with s7 := q } : Sl9).enc) := wrCells_put_sub (k := 70) (m := 10) h rfl rfl (by decide) rfl rfl
@[go_sem] theorem Sl9.dt_s7 (p : Sl9) : (p.enc.drop 70).take 10 = p.s7.enc := rfl
@[go_sem ↓] theorem Sl9.part_s7 (p : Sl9) : p.enc.toArray.extract 70 80 = p.s7.enc.toArray := rfl
@[go_sem ↓] theorem Sl9.rd_s7_mac {w : World} {b o : Nat} {p : Sl9} (h : Fit w b o 90) : rdCells (put w b o p.enc) ⟨b, o + 70, none⟩ 0 6 = some p.s7.mac.enc := rdCells_put_sub (k := 70) h rfl rfl rfl (by decide)
@[go_sem ↓] theorem Sl9.wr_s7_mac {w : World} {b o : Nat} {p : Sl9} {q : Mac} (h : Fit w b o 90) : wrCells (put w b o p.enc) ⟨b, o + 70, none⟩ 0 q.enc = some (put w b o ({ p with s7 := { p.s7 with mac := q } } : Sl9).enc) := wrCells_put_sub (k := 70) (m := 6) h rfl rfl (by decide) rfl rfl
@[go_sem] theorem Sl9.dt_s7_mac (p : Sl9) : (p.enc.drop 70).take 6 = p.s7.mac.enc := rfl
@[go_sem ↓] theorem Sl9.part_s7_mac (p : Sl9) : p.enc.toArray.extract 70 76 = p.s7.mac.enc.toArray := rfl
@[go_sem ↓] theorem Sl9.rd_s8 {w : World} {b o : Nat} {p : Sl9} (h : Fit w b o 90) : rdCells (put w b o p.enc) ⟨b, o + 80, none⟩ 0 10 = some p.s8.enc := rdCells_put_sub (k := 80) h rfl rfl rfl (by decide)
@[go_sem ↓] theorem Sl9.wr_s8 {w : World} {b o : Nat} {p : Sl9} {q : Ent} (h : Fit w b o 90) : wrCells (put w b o p.enc) ⟨b, o + 80, none⟩ 0 q.enc = some (put w b o ({ p with s8 := q } : Sl9).enc) := wrCells_put_sub (k := 80) (m := 10) h rfl rfl (by decide) rfl rfl
@[go_sem] theorem Sl9.dt_s8 (p : Sl9) : (p.enc.drop 80).take 10 = p.s8.enc := rfl
@[go_sem ↓] theorem Sl9.part_s8 (p : Sl9) : p.enc.toArray.extract 80 90 = p.s8.enc.toArray := rfl
@[go_sem ↓] theorem Sl9.rd_s8_mac {w : World} {b o : Nat} {p : Sl9} (h : Fit w b o 90) : rdCells (put w b o p.enc) ⟨b, o + 80, none⟩ 0 6 = some p.s8.mac.enc := rdCells_put_sub (k := 80) h rfl rfl rfl (by decide)
@[go_sem ↓] theorem Sl9.wr_s8_mac {w : World} {b o : Nat} {p : Sl9} {q : Mac} (h : Fit w b o 90) : wrCells (put w b o p.enc) ⟨b, o + 80, none⟩ 0 q.enc = some (put w b o ({ p with s8 := { p.s8 with mac := q } } : Sl9).enc) := wrCells_put_sub (k := 80) (m := 6) h rfl rfl (by decide) rfl rfl
@[go_sem] theorem Sl9.dt_s8_mac (p : Sl9) : (p.enc.drop 80).take 6 = p.s8.mac.enc := rfl
@[go_sem ↓] theorem Sl9.part_s8_mac (p : Sl9) : p.enc.toArray.extract 80 86 = p.s8.mac.enc.toArray := rfl
@[go_sem] theorem Ent.wr_fit {w : World} {b o : Nat} {q : Ent} (h : Fit w b o 10) : wrCells w ⟨b, o, none⟩ 0 q.enc = some (put w b o q.enc) := wrCells_fit h rfl rfl
@[go_sem] theorem Ent.wr_new {w : World} {c : Array Value} {T : TypeId} {b : Nat} {q : Ent} (hb : b = w.heap.size) (hc : c.size = 10) : wrCells (w.alloc (.cells c T)) ⟨b, 0, none⟩ 0 q.enc = some (w.alloc (.cells q.enc.toArray T)) := wrCells_new hb hc rfl rfl
@[go_sem] theorem Tab.wr_fit {w : World} {b o : Nat} {q : Tab} (h : Fit w b o 4) : wrCells w ⟨b, o, none⟩ 0 q.enc = some (put w b o q.enc) := wrCells_fit h rfl rfl
@[go_sem] theorem Tab.wr_new {w : World} {c : Array Value} {T : TypeId} {b : Nat} {q : Tab} (hb : b = w.heap.size) (hc : c.size = 4) : wrCells (w.alloc (.cells c T)) ⟨b, 0, none⟩ 0 q.enc = some (w.alloc (.cells q.enc.toArray T)) := wrCells_new hb hc rfl rfl
@[go_sem] theorem U9.wr_fit {w : World} {b o : Nat} {q : U9} (h : Fit w b o 9) : wrCells w ⟨b, o, none⟩ 0 q.enc = some (put w b o q.enc) := wrCells_fit h rfl rfl
@[go_sem] theorem U9.wr_new {w : World} {c : Array Value} {T : TypeId} {b : Nat} {q : U9} (hb : b = w.heap.size) (hc : c.size = 9) : wrCells (w.alloc (.cells c T)) ⟨b, 0, none⟩ 0 q.enc = some (w.alloc (.cells q.enc.toArray T)) := wrCells_new hb hc rfl rfl
@[go_sem] theorem Sl9.wr_fit {w : World} {b o : Nat} {q : Sl9} (h : Fit w b o 90) : wrCells w ⟨b, o, none⟩ 0 q.enc = some (put w b o q.enc) := wrCells_fit h rfl rfl
@[go_sem] theorem Sl9.wr_new {w : World} {c : Array Value} {T : TypeId} {b : Nat} {q : Sl9} (hb : b = w.heap.size) (hc : c.size = 90) : wrCells (w.alloc (.cells c T)) ⟨b, 0, none⟩ 0 q.enc = some (w.alloc (.cells q.enc.toArray T)) := wrCells_new hb hc rfl rfl
end Go.Proofs.Ytogekloaijidhaa
