/- Part. -/
import Derived.Test.YtfgjnpbffppocaaGreatDoorF0
namespace Go.Proofs.YtfgjnpbffppocaaGreatDoor
namespace Heap
variable {α:Type}
def row (f:Nat->α) (n:Nat):List α:=(List.range n).map f
def put (f:Nat->α) (i:Nat) (v:α):Nat->α:=λk=>if k=i then v else f k
def parent (c:Nat):Nat:=(c-1)/2
structure Ord (lt:α->α->Prop):Prop where
 asym:∀a b,lt a b->¬lt b a
 trans:∀a b c,¬lt b a->¬lt c b->¬lt c a
def Heap (lt:α->α->Prop) (f:Nat->α) (k n:Nat):Prop:=∀c,0<c->c<n->k<=parent c->¬lt (f c) (f (parent c))
structure Dn (lt:α->α->Prop) (f:Nat->α) (k n i:Nat):Prop where
 le:k<=i
 pairs:∀c,0<c->c<n->k<=parent c->parent c≠i->¬lt (f c) (f (parent c))
 grand:i≠k->k<=parent i->∀c,0<c->c<n->parent c=i->¬lt (f c) (f (parent i))
end Heap
namespace Merge
open Heap
abbrev B:=List UInt8
abbrev Rises (l:List B):Prop:=l.Pairwise (·<=·)
def hlt (r s:List B):Prop:=∃a b,r.head? =some a/\s.head? =some b/\a<b
abbrev Row:={r:List B // r≠[]}
def lt (r s:Row):Prop:=hlt r.1 s.1
def hd (r:Row):B:=r.1.head r.2
def recs (f:Nat->Row) (n:Nat):List B:=((row f n).map Subtype.val).flatten
structure Inv (all out:List B) (f:Nat->Row) (n:Nat):Prop where
 heap:Heap lt f 0 n
 rises:∀c,c<n->Rises (f c).1
 up:Rises out
 low:∀o∈out,∀x∈recs f n,o<=x
 same: (out++recs f n).Perm all
theorem done {all out:List B} {f:Nat->Row} (h:Inv all out f 0):Rises out/\out.Perm all:=by
 have:=h.same;have e:recs f 0= []:=rfl;rw[e,List.append_nil]at this;exact⟨h.up,this⟩
end Merge
end Go.Proofs.YtfgjnpbffppocaaGreatDoor
