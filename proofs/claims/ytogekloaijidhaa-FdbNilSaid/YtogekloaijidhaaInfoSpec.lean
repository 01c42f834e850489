/- WHAT THE PROGRAM'S LAYERS 6 TO 15 COMPUTE, and what the document's answer computes, as plain functions. No program is named here. -/
import Derived.Test.YtogekloaijidhaaData
namespace Go.Proofs.Ytogekloaijidhaa
open Go

namespace P
/-- cmp.Compare -/
def cmp (x y : Int) : Int := if x < y then -1 else if y < x then 1 else 0
/-- cmp.Or -/
def orI : List Int → Int
  | [] => 0
  | x :: l => if x = 0 then orI l else x
def compare (a b : Vec) : Int := orI [cmp a.root b.root, cmp a.cost b.cost, cmp a.bridge b.bridge, cmp a.port b.port]
def better (a b : Vec) : Bool := decide (compare a b < 0)
/-- addr.Of: six bytes -/
def mac (n : Int) : Mac := ⟨n / 1099511627776 % 256, n / 4294967296 % 256, n / 16777216 % 256, n / 65536 % 256, n / 256 % 256, n % 256⟩
def num (p : Int) : Int := p % 4096
def «from» (a b : Vec) : Bool := decide (mac a.bridge = mac b.bridge) && decide (num a.port = num b.port)
def superiorV (m p : Vec) : Bool := better m p || («from» m p && decide (m ≠ p))
def roleF (flags : Int) : Int := if flags / 4 % 4 = 1 then 3 else if flags / 4 % 4 = 2 then 1 else if flags / 4 % 4 = 3 then 2 else 0
def roleM (m : Bpdu) : Int := if m.kind = 1 then 2 else if m.kind = 3 then roleF m.flags else 0
def bit (f k : Int) : Bool := decide (f / k % 2 = 1)
def flagged (m : Bpdu) (k : Int) : Bool := decide (m.kind = 3) && bit m.flags k
def timesOf (m : Bpdu) : Tms := { age := (m.age + 255) / 256, max := m.max / 256, hello := if m.hello / 256 < 1 then 1 else m.hello / 256, delay := m.delay / 256 }
def livesT (t : Tms) (h : Int) : Int := if t.max ≤ t.age then 0 else 3 * h
def news (p : Prt) : Int :=
  if roleM p.msg = 2 then
    if superiorV p.msg.vector p.vector || (decide (p.msg.vector = p.vector) && decide (timesOf p.msg ≠ p.portTimes)) then 1
    else if p.msg.vector ≠ p.vector then 3 else if p.infoIs = 3 then 2 else 0
  else if roleM p.msg = 1 ∨ roleM p.msg = 3 then if better p.msg.vector p.vector then 0 else 4 else 0
def disable (p : Prt) : Prt := { p with rcvdMsg := false, proposing := false, proposed := false, agree := false, agreed := false, rcvdInfoWhile := 0, infoIs := 0, reselect := true, selected := false, pim := 0 }
def age (p : Prt) : Prt := { p with infoIs := 1, reselect := true, selected := false, pim := 1 }
def bos (p : Prt) (i : Int) : Bool := decide (i = p.infoIs) && (if i = 3 then !better p.vector p.msgVector else if i = 2 then !better p.vector p.designatedVector else false)
def update (p : Prt) : Prt :=
  let g := p.agreed && bos p 2
  { p with proposing := false, proposed := false, agreed := g, synced := p.synced && g, vector := p.designatedVector, portTimes := p.designatedTimes, updtInfo := false, infoIs := 2, newInfo := true, pim := 2 }
def flags (p : Prt) : Prt := { p with rcvdTc := p.rcvdTc || bit p.msg.flags 1, rcvdTcAck := p.rcvdTcAck || bit p.msg.flags 128 }
def propose (p : Prt) : Prt := { p with proposed := p.proposed || flagged p.msg 2 }
def lives (p : Prt) : Prt := { p with rcvdInfoWhile := livesT p.portTimes p.portTimes.hello }
def superior (p : Prt) : Prt :=
  let q := flags (propose { p with agreed := false, proposing := false })
  { lives { q with agree := q.agree && bos q 3, vector := q.msgVector, portTimes := q.msgTimes } with infoIs := 3, reselect := true, selected := false }
def agreed (rstp : Bool) (p : Prt) : Prt :=
  let g := rstp && p.pointToPoint && flagged p.msg 64
  flags { p with agreed := g, proposing := p.proposing && !g }
def hear (rstp : Bool) (p : Prt) : Prt :=
  let n := news p
  let q := { p with rcvdInfo := n, msgVector := p.msg.vector, msgTimes := timesOf p.msg, rcvdTcn := p.rcvdTcn || decide (p.msg.kind = 2) }
  let r := if n = 1 then superior q else if n = 2 then lives (flags (propose q)) else if n = 3 then (if flagged q.msg 16 then { q with disputed := true, agreed := false } else q) else if n = 4 then agreed rstp q else q
  { r with rcvdMsg := false }
/-- info.Step -/
def step (rstp : Bool) (p : Prt) : Prt × Bool :=
  if (!p.enabled && decide (p.infoIs ≠ 0)) || (decide (p.pim = 0) && p.rcvdMsg) then (disable p, true)
  else if decide (p.pim = 0) && p.enabled then (age p, true)
  else if (decide (p.pim = 1) || decide (p.pim = 2)) && p.selected && p.updtInfo then (update p, true)
  else if decide (p.pim ≠ 2) || p.updtInfo then (p, false)
  else if p.rcvdMsg then (hear rstp p, true)
  else if decide (p.infoIs = 3) && decide (p.rcvdInfoWhile = 0) then (age p, true)
  else (p, false)
end P
end Go.Proofs.Ytogekloaijidhaa
