/- Contracts and plain facts that the statement's proof leans on (texts joined). No condition beyond those that each names. -/
import Derived.Deep.RegionHeld3
import Derived.OrdersHeld
import Derived.Test.YtpmhkkjecapbeaaGreatDoorPfI
section
namespace Go.Proofs.YtpmhkkjecapbeaaGreatDoor
open Go.RowKit Pl Ad
set_option maxRecDepth 100000
set_option maxHeartbeats 4000000
set_option linter.unusedVariables false
set_option linter.unusedSimpArgs false
namespace Dg
open Kr
/-- Within block: the blocks and what they hold. -/
structure BlkS (w0 w : World) (p q r t : Nat) (cp cq cr : Array Value) : Prop where
  bel : Below w0.heap.size w0 w
  pb : Bx w p 172 cp
  qb : Bx w q 200 cq
  rb : Bx w r 172 cr
  tb : Bx w t 172 (wvals (List.replicate 8 0))
theorem BlkS.older {w0 w w' : World} {p q r t : Nat} {cp cq cr : Array Value} (h : BlkS w0 w p q r t cp cq cr) (hb : Below w.heap.size w w') : BlkS w0 w' p q r t cp cq cr :=
  ⟨h.bel.trans (hb.mono h.bel.size), h.pb.older hb, h.qb.older hb, h.rb.older hb, h.tb.older hb⟩
theorem BlkS.put1 {w0 w : World} {p q r t : Nat} {cp cq cr : Array Value} (h : BlkS w0 w p q r t cp cq cr) (hw : w0.heap.size ≤ p) (hq : ¬ q = p) (hr : ¬ r = p) (ht : ¬ t = p) (i : Nat) (v : Value) : BlkS w0 (w.setCell ⟨p, i, none⟩ v) p q r t (cp.setIfInBounds i v) cq cr :=
  ⟨h.bel.setCell (p := ⟨p, i, none⟩) hw v, h.pb.set i v, h.qb.touch (touch_set1 _ _ _ _) hq, h.rb.touch (touch_set1 _ _ _ _) hr, h.tb.touch (touch_set1 _ _ _ _) ht⟩
/-- While the schedule is laid. -/
structure SchS (w0 w : World) (q r t : Nat) (cq cr : Array Value) : Prop where
  bel : Below w0.heap.size w0 w
  qb : Bx w q 200 cq
  rb : Bx w r 172 cr
  tb : Bx w t 172 (wvals (List.replicate 8 0))
theorem SchS.older {w0 w w' : World} {q r t : Nat} {cq cr : Array Value} (h : SchS w0 w q r t cq cr) (hb : Below w.heap.size w w') : SchS w0 w' q r t cq cr :=
  ⟨h.bel.trans (hb.mono h.bel.size), h.qb.older hb, h.rb.older hb, h.tb.older hb⟩
end Dg
end Go.Proofs.YtpmhkkjecapbeaaGreatDoor
end

