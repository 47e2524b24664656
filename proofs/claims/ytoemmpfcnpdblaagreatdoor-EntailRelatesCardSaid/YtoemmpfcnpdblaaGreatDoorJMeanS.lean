/- The plain meaning of an expression in a catalog, and of what layer 34 says of lists in a catalog. -/
import Derived.Test.YtoemmpfcnpdblaaGreatDoorJExpG
import Derived.Test.YtoemmpfcnpdblaaGreatDoorJProY
set_option linter.all false
namespace Go.Proofs.YtoemmpfcnpdblaaGreatDoor
open Go

def knownN (c : Catalog) (e : LExpr) : Bool := emp e.name || (liftsC c ⟨e.name, e.exc⟩).isSome
def checkE (c : Catalog) (e : LExpr) : Int :=
 if !(checkC c == 0) then 1 else if !(formE e == 0) then formE e else if (nodesE e).all (knownN c) then 0 else 7
mutual
def meanP (c : Catalog) : LExpr → List (List Term) × Int
 | .mk k n x ks =>
  if k == 0 then ([[⟨n, x⟩]], 0)
  else if k == 1 then sizedP (minimalP (((laterC c n).getD []).map fun s => [⟨s, ByteArray.empty⟩]))
  else meanKs c k true [] ks
def meanKs (c : Catalog) (k : Int) (first : Bool) (out : List (List Term)) : List LExpr → List (List Term) × Int
 | [] => sizedP (minimalP out)
 | e :: r =>
  let l := meanP c e
  if !(l.2 == 0) then ([], l.2)
  else if k == 3 then meanKs c k false (out ++ l.1) r
  else if first then meanKs c k false l.1 r
  else
   let p := sizedP (minimalP (pairsA out l.1))
   if !(p.2 == 0) then ([], p.2) else meanKs c k false p.1 r
end
def ofP (c : Catalog) (e : LExpr) : List (List Term) × Int := if !(checkE c e == 0) then ([], checkE c e) else meanP c e
def relP (a b : List (List Term)) : Int :=
 if (sepP a b).isNone then (if (sepP b a).isNone then 3 else 1) else if (sepP b a).isNone then 2 else 0
def relateP (c : Catalog) (e f : LExpr) : Int × Int :=
 if !((ofP c e).2 == 0) then (0, (ofP c e).2) else if !((ofP c f).2 == 0) then (0, (ofP c f).2) else (relP (ofP c e).1 (ofP c f).1, 0)
def clausesA (c : Catalog) (a : List Term) : List Clause :=
 ([0, 1, 2] : List Int).flatMap fun way => ([0, 1, 2] : List Int).flatMap fun rel => a.flatMap fun t => clausesC c t way rel
def clausesE (c : Catalog) (a : List Term) : Int :=
 if !(checkC c == 0) then 1 else if a.any (fun t => !(liftsC c t).isSome) then 7 else 0
def clausesP (c : Catalog) (a : List Term) : List Clause × Int := if !(clausesE c a == 0) then ([], clausesE c a) else (clausesA c a, 0)
def coveredP (x y : Clause) : Bool :=
 if !(x.way == y.way) || !(x.relation == y.relation) || !(x.duty == y.duty) then false
 else !(x.duty == 4) || !y.list.any (fun s => !x.list.any (fun u => decide (u = s)))
def mildC (a b : List Clause) : Bool := !a.any fun x => !b.any fun y => coveredP x y
def mildP (c : Catalog) (a b : List Term) : Bool × Int :=
 if !(clausesE c a == 0) then (false, clausesE c a) else if !(clausesE c b == 0) then (false, clausesE c b) else (mildC (clausesA c a) (clausesA c b), 0)
def allE (c : Catalog) : List (List Term) → Int
 | [] => 0
 | a :: r => if clausesE c a == 0 then allE c r else clausesE c a
def byC (x y : List (List Clause)) : Bool := !x.any fun p => !y.any fun q => mildC q p
def byP (c : Catalog) (a b : List (List Term)) : Bool × Int :=
 if badP a b then (false, 1) else if !(allE c a == 0) then (false, allE c a) else if !(allE c b == 0) then (false, allE c b) else (byC (a.map (clausesA c)) (b.map (clausesA c)), 0)
end Go.Proofs.YtoemmpfcnpdblaaGreatDoor
