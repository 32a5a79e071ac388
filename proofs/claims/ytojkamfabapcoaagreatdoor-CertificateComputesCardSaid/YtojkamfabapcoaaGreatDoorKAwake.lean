import Derived.Test.YtojkamfabapcoaaGreatDoorApply
set_option maxRecDepth 100000
set_option maxHeartbeats 8000000
set_option linter.unusedSimpArgs false
set_option linter.unusedVariables false
namespace Go.Proofs.YtojkamfabapcoaaGreatDoor
open Go.RowKit Go.Grid Go.Maps Go.Sort Go.Shelf
def insBy {α:Type} (lt:α→α→Bool) (x:α):List α→List α
 |[]=>[x]
 |y :: r=>if lt y x then y :: insBy lt x r else x :: y :: r
def isortBy {α:Type} (lt:α→α→Bool) (l:List α):List α:=l.foldr (insBy lt) []
def ltI (a b:Int):Bool:=decide (a < b)
def ltB3 (x y:I3):Bool:=decide (lt3 x y)
def ltB2 (x y:I2):Bool:=decide (lt2 x y)
def triF (L:List Pl) (p q r:Pl):List Int:=isortBy ltI [atI L p,atI L q,atI L r]
def cellsAtF (L:List Pl) (h:Nat) (p:Pl):List (List Int):=
 triF L ⟨p.f,p.a+h,p.b,p.c⟩ ⟨p.f,p.a,p.b+h,p.c⟩ ⟨p.f,p.a,p.b,p.c+h⟩ ::
  (if h≤p.c then [triF L ⟨p.f,p.a,p.b+h,p.c⟩ ⟨p.f,p.a+h,p.b,p.c⟩ ⟨p.f,p.a+h,p.b+h,p.c-h⟩] else [])
def cellsF (L:List Pl) (n:Nat):List I3:=((List.range 20).flatMap fun f=>(List.range n).flatMap fun a=>(List.range (n-a)).flatMap fun b=>cellsAtF L (hh n) (cpos n f a b)).map to3
def edgesF (L:List Pl) (n:Nat):List I2:=
 let d:=isortBy ltB3 (cellsF L n)
 let e:=isortBy ltB2 (d.flatMap eds)
 comp e e.length
end Go.Proofs.YtojkamfabapcoaaGreatDoor
