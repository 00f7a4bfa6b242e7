/-
  A state of package justify, and what justify.Next comes to as a plain function; no condition.
-/
import Derived.Test.YtlofdhhpfhmkhaaOwn
namespace Go.Proofs.Ytlofdhhpfhmkhaa.Justify
open Go.RowKit Go.Proofs.YtlofdhhpfhmkhaaW.PrintWords Go.Proofs.Ytlofdhhpfhmkhaa.Own

/-- A state of package justify. -/
structure St where
  b0 : Bool
  b1 : Bool
  b2 : Bool
  b3 : Bool
  pe : Int
  pr : Int
  ce : Int
  cr : Int
  fe : Int
  fr : Int
deriving DecidableEq
/-- Its cells. -/
def St.cells (s : St) : Array Value := #[.bool s.b0, .bool s.b1, .bool s.b2, .bool s.b3, .int .i64 s.pe, .int .u64 s.pr, .int .i64 s.ce, .int .u64 s.cr, .int .i64 s.fe, .int .u64 s.fr]
/-- What is justified and final at an epoch's end. -/
def next (s : St) (e : Int) (before now : Bool) (fe fr se sr : Int) : St :=
  let b0 := now
  let b1 := s.b0 || before
  let b2 := s.b1
  let b3 := s.b2
  let c : Int × Int := if now then (se, sr) else if before then (fe, fr) else (s.ce, s.cr)
  let f : Int × Int :=
    if b0 && b1 && (wrap64 (s.ce + 1) == e) then (s.ce, s.cr)
    else if b0 && b1 && b2 && (wrap64 (s.ce + 2) == e) then (s.ce, s.cr)
    else if b1 && b2 && (wrap64 (s.pe + 2) == e) then (s.pe, s.pr)
    else if b1 && b2 && b3 && (wrap64 (s.pe + 3) == e) then (s.pe, s.pr)
    else (s.fe, s.fr)
  ⟨b0, b1, b2, b3, s.ce, s.cr, c.1, c.2, f.1, f.2⟩

end Go.Proofs.Ytlofdhhpfhmkhaa.Justify
