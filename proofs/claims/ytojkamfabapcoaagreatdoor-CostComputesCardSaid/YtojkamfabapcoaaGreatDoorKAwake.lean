import Derived.Test.YtojkamfabapcoaaGreatDoorApply
set_option maxRecDepth 100000
set_option maxHeartbeats 8000000
set_option linter.unusedSimpArgs false
set_option linter.unusedVariables false
namespace Go.Proofs.YtojkamfabapcoaaGreatDoor
open Go.RowKit Go.Grid Go.Maps Go.Sort Go.Shelf
def insBy {α:Type} (lt:α→α→Bool) (x:α):List α→List α
 |[]=>[x]
 |y :: r=>if lt y x then y :: insBy lt x r else x :: y :: r
def isortBy {α:Type} (lt:α→α→Bool) (l:List α):List α:=l.foldr (insBy lt) []
theorem insBy_perm {α:Type} (lt:α→α→Bool) (x:α):∀ l,(insBy lt x l).Perm (x :: l)
 |[]=>List.Perm.refl _
 |y :: r=>by
  unfold insBy
  split
  ·exact ((insBy_perm lt x r).cons y).trans (List.Perm.swap x y r)
  ·exact List.Perm.refl _
theorem isortBy_perm {α:Type} (lt:α→α→Bool):∀ l,(isortBy lt l).Perm l
 |[]=>List.Perm.refl _
 |x :: r=>(insBy_perm lt x _).trans ((isortBy_perm lt r).cons x)
theorem insBy_pair {α:Type} {lt:α→α→Bool} (htr:∀ a b c,lt b a=false→lt c b=false→lt c a=false) (has:∀ a b,lt a b=true→lt b a=false) (x:α):∀ l:List α,l.Pairwise (fun a b=>lt b a=false)→(insBy lt x l).Pairwise (fun a b=>lt b a=false)
 |[],_=>by simp[insBy]
 |y :: r,h=>by
  obtain⟨h1,h2⟩:=List.pairwise_cons.1 h
  unfold insBy
  split
  ·rename_i hb
   refine List.pairwise_cons.2 ⟨fun z hz=>?_,insBy_pair htr has x r h2⟩
   rcases List.mem_cons.1 ((insBy_perm lt x r).mem_iff.1 hz) with rfl|hz
   ·exact has _ _ hb
   ·exact h1 z hz
  ·rename_i hb
   have hb':lt y x=false:=by simpa using hb
   refine List.pairwise_cons.2 ⟨fun z hz=>?_,h⟩
   rcases List.mem_cons.1 hz with rfl|hz
   ·exact hb'
   ·exact htr x y z hb' (h1 z hz)
theorem isortBy_pair {α:Type} {lt:α→α→Bool} (htr:∀ a b c,lt b a=false→lt c b=false→lt c a=false) (has:∀ a b,lt a b=true→lt b a=false):∀ l:List α,(isortBy lt l).Pairwise (fun a b=>lt b a=false)
 |[]=>List.Pairwise.nil
 |x :: r=>insBy_pair htr has x _ (isortBy_pair htr has r)
def ltI (a b:Int):Bool:=decide (a < b)
def ltB3 (x y:I3):Bool:=decide (lt3 x y)
def ltB2 (x y:I2):Bool:=decide (lt2 x y)
theorem sorted_fast (l:List Int):sorted l=isortBy ltI l:=by
 refine (List.Perm.eq_of_pairwise (le:=fun a b:Int=>a≤b) (fun a b _ _ h1 h2=>by omega) ?_ (sorted_pair l) ((isortBy_perm ltI l).trans (sorted_perm l).symm)).symm
 exact (isortBy_pair (lt:=ltI) (fun a b c h1 h2=>zDf (by have a1:=of_decide_eq_false h1;have a2:=of_decide_eq_false h2;omega)) (fun a b h=>zDf (by have:=of_decide_eq_true h;omega)) l).imp (fun h=>by have:=of_decide_eq_false h;omega)
theorem sort3_fast (d:List I3):sort3 d=isortBy ltB3 d:=by
 refine (sort3_one (isortBy_perm ltB3 d) ?_).symm
 exact (isortBy_pair (lt:=ltB3) (fun a b c h1 h2=>zDf (by have a1:=of_decide_eq_false h1;have a2:=of_decide_eq_false h2;unfold lt3 at *;omega)) (fun a b h=>zDf (by have a1:=of_decide_eq_true h;unfold lt3 at *;omega)) d).imp (fun h=>of_decide_eq_false h)
theorem sort2_fast (d:List I2):sort2 d=isortBy ltB2 d:=by
 refine (sort2_one (isortBy_perm ltB2 d) ?_).symm
 exact (isortBy_pair (lt:=ltB2) (fun a b c h1 h2=>zDf (by have a1:=of_decide_eq_false h1;have a2:=of_decide_eq_false h2;unfold lt2 at *;omega)) (fun a b h=>zDf (by have a1:=of_decide_eq_true h;unfold lt2 at *;omega)) d).imp (fun h=>of_decide_eq_false h)
def triF (L:List Pl) (p q r:Pl):List Int:=isortBy ltI [atI L p,atI L q,atI L r]
theorem tri_fast (L:List Pl) (p q r:Pl):tri L p q r=triF L p q r:=sorted_fast _
def cellsAtF (L:List Pl) (h:Nat) (p:Pl):List (List Int):=
 triF L ⟨p.f,p.a+h,p.b,p.c⟩ ⟨p.f,p.a,p.b+h,p.c⟩ ⟨p.f,p.a,p.b,p.c+h⟩ ::
  (if h≤p.c then [triF L ⟨p.f,p.a,p.b+h,p.c⟩ ⟨p.f,p.a+h,p.b,p.c⟩ ⟨p.f,p.a+h,p.b+h,p.c-h⟩] else [])
theorem cellsAt_fast (L:List Pl) (h:Nat) (p:Pl):cellsAt L h p=cellsAtF L h p:=by
 unfold cellsAt cellsAtF;simp only[tri_fast]
def cellsF (L:List Pl) (n:Nat):List I3:=((List.range 20).flatMap fun f=>(List.range n).flatMap fun a=>(List.range (n-a)).flatMap fun b=>cellsAtF L (hh n) (cpos n f a b)).map to3
theorem cells3_fast (n:Nat):cells3 n=cellsF (nodesL n) n:=by
 unfold cells3 cellsF cellsRaw cF cA cB
 simp only[cellsAt_fast]
def edgesF (L:List Pl) (n:Nat):List I2:=
 let d:=isortBy ltB3 (cellsF L n)
 let e:=isortBy ltB2 (d.flatMap eds)
 comp e e.length
theorem edges_fast (n:Nat):edgesL n=edgesF (nodesL n) n:=by
 unfold edgesL edRaw edTo cellsS edgesF
 rw[List.take_length,sort2_fast,sort3_fast,cells3_fast]
end Go.Proofs.YtojkamfabapcoaaGreatDoor
