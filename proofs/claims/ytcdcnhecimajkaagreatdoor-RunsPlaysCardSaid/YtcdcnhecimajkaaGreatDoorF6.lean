/- Part. -/
import Derived.Test.YtcdcnhecimajkaaGreatDoorF0
import Derived.Test.YtcdcnhecimajkaaGreatDoorF0Q
import Derived.Test.YtcdcnhecimajkaaGreatDoorF5
import Derived.Lib.Bytealg
import Derived.Laws.Externs
set_option maxHeartbeats 400000
set_option maxRecDepth 100000
namespace Go.Proofs.YtcdcnhecimajkaaGreatDoor
namespace Runs
open Go.RowKit Go.Deep Mem Crc Merge
theorem run_loadB (w:World) (g:Nat):∀(bs:List UInt8) (off:Nat) (acc:ByteArray),(∀i u,bs[i]? =some u->w.cell? ⟨g,off+i,none⟩=some (bv u))->
  (Extern.Bytes.loadBytes ⟨g,off,none⟩ bs.length acc).run Tryz.prog w=.ok ⟨acc.data++bs.toArray⟩ w
 | [],_,acc,_=>by simp[Extern.Bytes.loadBytes]
 |x ::t,off,acc,h=>by
  have h0:w.cell? ⟨g,off,none⟩=some (.int .u8 (x.toNat:Int)):=by simpa[bv]using h 0 x rfl
  have hadd: (⟨g,off,none⟩:Addr).add 1=⟨g,off+1,none⟩:=by unfold Addr.add;split <;> simp_all
  have ih:=run_loadB w g t (off+1) (acc.push ((x.toNat:Int).toNat.toUInt8)) (λi u hu=>by
   have:=h (i+1) u (by simpa using hu);rw[show off+1+i=off+(i+1)by omega];exact this)
  simp only[List.length_cons,Extern.Bytes.loadBytes,Sem.run_bind,run_load,h0,Result.andThen_ok,hadd,ih]
  congr 1
  apply ByteArray.ext
  simp
theorem run_bytesOf (w:World) (a:Option Addr) (c:Nat) (bs:List UInt8) (h:Lies w a (bs.map bv)): (Extern.Bytes.bytesOf (.slice a bs.length c)).run Tryz.prog w=.ok ⟨bs.toArray⟩ w:=by
 cases a with
 |none=>
  have e:bs= []:=by simpa using lies_none h
  subst e
  rfl
 |some p=>
  rcases h with h|⟨g,off,e,_,hc⟩
  ·have e:bs= []:=by simpa using h
   subst e
   rfl
  ·cases e;have:=run_loadB w g bs off .empty (λi u hu=>hc i (bv u) (bv_at hu));show(Extern.Bytes.loadBytes ⟨g,off,none⟩ bs.length .empty).run Tryz.prog w=_;rw[this]
   congr 1
   apply ByteArray.ext
   show(#[]:Array UInt8)++bs.toArray=bs.toArray
   simp
theorem cmp_eq:∀a b:B,Lib.compareBytes a b=cmpB a b
 | [],[]=>rfl
 | [],_ ::_=>by rw[cmpB_nil,if_neg (by simp)];rfl
 |_ ::_,[]=>by rw[cmpB_nil_r,if_neg (by simp)];rfl
 |x ::s,y ::t=>by
  rw[cmpB_cons];unfold Lib.compareBytes;rw[cmp_eq s t]
theorem compare_any (u v:Value) (a b:B) (w:World) (h1:RecAt w u a) (h2:RecAt w v b):
  Calls Tryz.prog 76 #[u,v] w λe w'=>e=.returned (.int .i64 (cmpB a b))/\w'=w:=by
 obtain⟨p,cp,rfl,_,hp⟩:=h1;obtain⟨q,cq,rfl,_,hq⟩:=h2
 have hrun: (Extern.BytealgCompare.compare #[.slice p a.length cp,.slice q b.length cq]).run Tryz.prog w=.ok (.int .i64 (cmpB a b)) w:=by
  have e1:=run_bytesOf w p cp a hp;have e2:=run_bytesOf w q cq b hq;show Sem.run Tryz.prog (do pure (goInt (Extern.BytealgCompare.cmp (<-Extern.Bytes.bytesOf (.slice p a.length cp)) (<-Extern.Bytes.bytesOf (.slice q b.length cq))))) w=_;simp only[Sem.run_bind,e1,Result.andThen_ok,e2,Sem.run_pure,Lib.cmp_eq];rw[<-cmp_eq]
  simp[goInt]
 have HR:=jq hrun;clear hp hq hrun
 go_enter Tryz.func76,Tryz.ntmps76
 go_wp2_with fail
 rw[run_callFunc_extern Tryz.func115 (by kernel_rfl) (by kernel_rfl) (by kernel_rfl) (e:=Extern.BytealgCompare.compare) (by kernel_rfl),HR.out];simp only[Result.andThen];rw[Oper.upon_value]
 go_wp2_with fail
 go_ret
 exact⟨rfl,rfl⟩
end Runs
end Go.Proofs.YtcdcnhecimajkaaGreatDoor
