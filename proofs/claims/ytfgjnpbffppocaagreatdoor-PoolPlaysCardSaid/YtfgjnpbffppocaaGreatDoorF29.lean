/- Part. -/
import Derived.Test.YtfgjnpbffppocaaGreatDoorF0
import Derived.Test.YtfgjnpbffppocaaGreatDoorF23
import Derived.Test.YtfgjnpbffppocaaGreatDoorF25
import Derived.Test.YtfgjnpbffppocaaGreatDoorF28
import Derived.LoopN
namespace Go.Proofs.YtfgjnpbffppocaaGreatDoor
namespace Dk
open Go.RowKit Go.Deep Mem Crc
def DM.writes:DM->List (Nat×List UInt8)->DM×Int
 |m,[]=>(m,0)
 |m,x ::r=>if(m.write x.1 x.2).2=0 then(m.write x.1 x.2).1.writes r else m.write x.1 x.2
def slotW (at_:Nat) (b:List UInt8):List (Nat×List UInt8):=(List.range 16).map λk=>(at_+k,(b.drop (k*128)).take 128)
def DM.slot (m:DM) (at_:Nat) (b:List UInt8):DM×Int:=if(m.writes (slotW at_ b)).2=0 then(m.writes (slotW at_ b)).1.sync else m.writes (slotW at_ b)
def DM.mani (m:DM) (ver:Nat) (b:List UInt8):DM×Int:=if(m.slot (ver%2*16) b).2=0 then(m.slot (ver%2*16) b).1.slot ((ver+1)%2*16) b else m.slot (ver%2*16) b
theorem deed_same (m:DM):m.deed.1.wt=m.wt/\m.deed.1.bl=m.bl/\(m.deed.2=0->m.deed.1.off=m.off):=by
 unfold DM.deed
 split
 ·exact⟨rfl,rfl,λh=>by cases h⟩
 ·split <;> exact⟨rfl,rfl,λ_=>rfl⟩
theorem write_ok {m:DM} {i:Nat} {b:List UInt8} (h: (m.write i b).2=0): (m.write i b).1.bl=m.bl/\(m.write i b).1.off=m.off/\(m.write i b).1.wt=m.wt++ [(i,b)]:=by
 have hd:=deed_same m;unfold DM.write at h⊢
 split at h
 ·cases h
 ·rename_i h0
  rw[if_neg h0];refine⟨hd.2.1,?_,rfl⟩;show m.deed.1.off=m.off;unfold DM.deed;rw[if_neg h0]
  split <;> rfl
theorem writes_ok:∀{l:List (Nat×List UInt8)} {m:DM},(m.writes l).2=0->(m.writes l).1.bl=m.bl/\(m.writes l).1.off=m.off/\(m.writes l).1.wt=m.wt++l
 | [],m,_=>⟨rfl,rfl,by simp[DM.writes]⟩
 |x ::r,m,h=>by
  unfold DM.writes at h⊢
  by_cases h0: (m.write x.1 x.2).2=0
  ·rw[if_pos h0]at h⊢;obtain⟨h1,h2,h3⟩:=writes_ok h;obtain⟨g1,g2,g3⟩:=write_ok h0;exact⟨h1.trans g1,h2.trans g2,by rw[h3,g3];simp⟩
  ·rw[if_neg h0]at h;exact absurd h h0
theorem writes_snoc:∀(l:List (Nat×List UInt8)) (m:DM) (x:Nat×List UInt8),(m.writes l).2=0->m.writes (l++ [x])=(m.writes l).1.write x.1 x.2
 | [],m,x,_=>by
  show m.writes [x]=m.write x.1 x.2;unfold DM.writes
  split
  ·rename_i h;show((m.write x.1 x.2).1,(0:Int))=_;rw[<-h]
  ·rfl
 |y ::r,m,x,h=>by
  show m.writes (y ::(r++ [x]))=_;unfold DM.writes at h⊢
  by_cases h0: (m.write y.1 y.2).2=0
  ·rw[if_pos h0]at h⊢;rw[if_pos h0];exact writes_snoc r _ x h
  ·rw[if_neg h0]at h;exact absurd h h0
theorem writes_stop:∀{l r:List (Nat×List UInt8)} {m:DM},(m.writes l).2≠0->m.writes (l++r)=m.writes l
 | [],_,_,h=>absurd rfl h
 |x ::l,r,m,h=>by
  show m.writes (x ::(l++r))=_;unfold DM.writes at h⊢
  by_cases h0: (m.write x.1 x.2).2=0
  ·rw[if_pos h0]at h⊢;rw[if_pos h0];exact writes_stop h
  ·rw[if_neg h0,if_neg h0]
end Dk
end Go.Proofs.YtfgjnpbffppocaaGreatDoor
