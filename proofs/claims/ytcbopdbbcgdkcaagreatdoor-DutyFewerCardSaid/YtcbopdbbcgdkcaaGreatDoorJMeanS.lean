/- The plain meaning of an expression in a catalog, and of what layer 34 says of lists in a catalog. -/
import Derived.Test.YtcbopdbbcgdkcaaGreatDoorJExpG
import Derived.Test.YtcbopdbbcgdkcaaGreatDoorJProY
set_option linter.all false
namespace Go.Proofs.YtcbopdbbcgdkcaaGreatDoor
open Go

def knownN (c:Catalog) (e:LExpr):Bool:=emp e.name || (liftsC c ⟨e.name,e.exc⟩).isSome
def checkE (c:Catalog) (e:LExpr):Int :=
 if !(checkC c == 0) then 1 else if !(formE e == 0) then formE e else if (nodesE e).all (knownN c) then 0 else 7
mutual
def meanP (c:Catalog):LExpr→List (List Term)×Int
 | .mk k n x ks =>
  if k == 0 then ([[⟨n,x⟩]],0)
  else if k == 1 then sizedP (minimalP (((laterC c n).getD []).map fun s=>[⟨s,ByteArray.empty⟩]))
  else meanKs c k true [] ks
def meanKs (c:Catalog) (k:Int) (first:Bool) (out:List (List Term)):List LExpr→List (List Term)×Int
 | []=>sizedP (minimalP out)
 | e :: r =>
  let l:=meanP c e
  if !(l.2 == 0) then ([],l.2)
  else if k == 3 then meanKs c k false (out++l.1) r
  else if first then meanKs c k false l.1 r
  else
   let p:=sizedP (minimalP (pairsA out l.1))
   if !(p.2 == 0) then ([],p.2) else meanKs c k false p.1 r
end
def ofP (c:Catalog) (e:LExpr):List (List Term)×Int:=if !(checkE c e == 0) then ([],checkE c e) else meanP c e
end Go.Proofs.YtcbopdbbcgdkcaaGreatDoor
