/- A part of the proof. -/
import Derived.Test.YtbfochdoeibofaaGreatDoorG0
import Derived.Test.YtbfochdoeibofaaGreatDoorG0Q
import Derived.Test.YtbfochdoeibofaaGreatDoorG2
import Derived.Test.YtbfochdoeibofaaGreatDoorG9
import Derived.Test.YtbfochdoeibofaaGreatDoorShelf
namespace Go.Proofs.YtbfochdoeibofaaGreatDoor
namespace Store
open Go.RowKit Go.Deep Mem Crc Disk Man Go.Maps
theorem remove_off {w:World} {Q:Nat->Prop} {s d g N cm:Nat} {C:Chg} (h:St w Q s d g N cm true C) (x:Value):
  Calls Tryz.prog 27 #[.pointer (some ⟨s,0,none⟩),x] w λe w'=>e=.returned (.int .i64 6)/\w'=w:=by
 have HD:=jq (down_any h);clear h
 go_enter Tryz.func27,Tryz.ntmps27
 go_wp2_with fail
 refine HD.out.mono ?_;rintro e w1 ⟨rfl,rfl⟩
 go_wp2_with fail
 go_ret
 exact⟨rfl,rfl⟩
end Store
namespace Store
open Go.RowKit Go.Deep Mem Crc Disk Man Go.Maps
abbrev Files:=List UInt8->Option (List UInt8)
noncomputable def setF (F:Files) (nm:List UInt8) (b:Option (List UInt8)):Files:=λx=>open Classical in if x=nm then b else F x
structure Sto (s:Nat) where
 At:World->(Nat->Prop)->Bool->Files->Nat->Prop
 lt:∀{w:World} {Q:Nat->Prop} {off:Bool} {F:Files} {n:Nat},At w Q off F n->∀k,Q k->k<w.heap.size
 keep:∀{w w':World} {Q:Nat->Prop} {off:Bool} {F:Files} {n:Nat},At w Q off F n->w.heap.size<=w'.heap.size->(∀k,Q k->w'.heap[k]? =w.heap[k]?)->At w' Q off F n
 short:∀{w:World} {Q:Nat->Prop} {off:Bool} {F:Files} {n:Nat},At w Q off F n->∀nm b,F nm=some b->nm.length<=32/\b.length<=1048576
 write:∀{w:World} {Q:Nat->Prop} {F:Files} {n:Nat},At w Q false F n->n<100000->∀(nm:List UInt8),1<=nm.length->nm.length<=32->∀(a:Option Addr) (cp:Nat) (b:List UInt8),Lies w a (b.map bv)->b.length<=1048576->
  Calls Tryz.prog 11 #[.pointer (some ⟨s,0,none⟩),nv nm,.slice a b.length cp] w λe w'=>e=.returned (.int .i64 0)/\∃Q',At w' Q' false (setF F nm (some b)) (n+1)/\(∀k,Q' k->Q k\/w.heap.size<=k)/\Upon Q w w'
 write_off:∀{w:World} {Q:Nat->Prop} {F:Files} {n:Nat},At w Q true F n->∀(x:Value) (a:Option Addr) (m cp:Nat),
  Calls Tryz.prog 11 #[.pointer (some ⟨s,0,none⟩),x,.slice a m cp] w λe w'=>e=.returned (.int .i64 6)/\Below w.heap.size w w'
 read_some:∀{w:World} {Q:Nat->Prop} {F:Files} {n:Nat},At w Q false F n->∀(nm b:List UInt8),F nm=some b->
  Calls Tryz.prog 12 #[.pointer (some ⟨s,0,none⟩),nv nm] w λe w'=>∃v,e=.returned (.tuple #[v,.int .i64 0])/\OwnB w' w.heap.size v b/\Below w.heap.size w w'
 read_none:∀{w:World} {Q:Nat->Prop} {F:Files} {n:Nat},At w Q false F n->∀(nm:List UInt8),nm.length<=1000000->F nm=none->
  Calls Tryz.prog 12 #[.pointer (some ⟨s,0,none⟩),nv nm] w λe w'=>∃v,e=.returned (.tuple #[v,.int .i64 8])/\OwnB w' w.heap.size v []/\Below w.heap.size w w'
 read_off:∀{w:World} {Q:Nat->Prop} {F:Files} {n:Nat},At w Q true F n->∀(x:Value),
  Calls Tryz.prog 12 #[.pointer (some ⟨s,0,none⟩),x] w λe w'=>e=.returned (.tuple #[.slice none 0 0,.int .i64 6])/\Below w.heap.size w w'
 remove:∀{w:World} {Q:Nat->Prop} {F:Files} {n:Nat},At w Q false F n->n<100000->∀(nm:List UInt8),F nm≠none->
  Calls Tryz.prog 27 #[.pointer (some ⟨s,0,none⟩),nv nm] w λe w'=>e=.returned (.int .i64 0)/\∃Q',At w' Q' false (setF F nm none) (n+1)/\(∀k,Q' k->Q k\/w.heap.size<=k)/\Upon Q w w'
 remove_off:∀{w:World} {Q:Nat->Prop} {F:Files} {n:Nat},At w Q true F n->∀(x:Value),
  Calls Tryz.prog 27 #[.pointer (some ⟨s,0,none⟩),x] w λe w'=>e=.returned (.int .i64 6)/\Below w.heap.size w w'
 names:∀{w:World} {Q:Nat->Prop} {off:Bool} {F:Files} {n:Nat},At w Q off F n->
  Calls Tryz.prog 28 #[.pointer (some ⟨s,0,none⟩)] w λe w'=>∃(v:Value) (ss:List (List UInt8)),e=.returned v/\w'.ownsRow w.heap.size 9 1 v ss.length (ss.map encStr)/\(∀nm,nm∈ss↔F nm≠none)/\ss.length<=200000/\Below w.heap.size w w'
theorem Sto.upon {s:Nat} (S:Sto s) {w w':World} {P Q:Nat->Prop} {off:Bool} {F:Files} {n:Nat} (h:S.At w Q off F n) (hB:Upon P w w') (hP:∀k,P k->¬Q k):S.At w' Q off F n:=S.keep h hB.size (λk hk=>hB.block k (S.lt h k hk) (λhp=>hP k hp hk))
def filesOf (C:Chg):Files:=λnm=>match C nm with
 |some c=>c
 |none=>none
structure Bare (s d g N cm:Nat) (w:World) (Q:Nat->Prop) (off:Bool) (F:Files) (n:Nat):Prop where
 at_:∃(C:Chg) (L:List (List UInt8)),St w Q s d g N cm off C/\F=filesOf C/\(∀x,C x≠none->x∈L)/\L.length<=n/\∀x∈L,x.length<=32
 few:n<=100000
 long:∀nm b,F nm=some b->b.length<=1048576
end Store
end Go.Proofs.YtbfochdoeibofaaGreatDoor
