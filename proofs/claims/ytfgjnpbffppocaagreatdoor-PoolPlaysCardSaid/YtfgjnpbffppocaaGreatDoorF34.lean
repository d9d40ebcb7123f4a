/- Part. -/
import Derived.Test.YtfgjnpbffppocaaGreatDoorF0
import Derived.Test.YtfgjnpbffppocaaGreatDoorF0Q
import Derived.Test.YtfgjnpbffppocaaGreatDoorF33
import Derived.Deep.OwnRows
import Derived.BigQuiet
import Derived.Deep.QuietTactic
set_option maxHeartbeats 1000000
namespace Go.Proofs.YtfgjnpbffppocaaGreatDoor
namespace Ext
open Go.RowKit Go.Shelf Mem
set_option maxRecDepth 100000
def cnt (n:Int):Int:=min (max n 0) 65536
theorem infoW: (Tryz.prog.info? 98).map (λi=>(i.zero,i.size,i.bytes))=some (some (.int .u64 0),1,8):=by kernel_rfl
structure Fresh (n:Int) (w w':World):Prop where
 map:Blk w' (w.heap.size+1) 205 #[.slice (some ⟨w.heap.size,0,none⟩) ((cnt n+63)/64).toNat ((cnt n+63)/64).toNat,.int .i64 (cnt n),.int .i64 0]
 words:Blk w' w.heap.size 98 (madeCells #[.int .u64 0] ((cnt n+63)/64).toNat)
 below:Below w.heap.size w w'
theorem new_any (n:Int) (w:World):Calls Tryz.prog 121 #[.int .i64 n] w λe w'=>e=.returned (.pointer (some ⟨w.heap.size+1,0,none⟩))/\Fresh n w w':=by
 obtain⟨c,hc⟩:=jl (cnt n);have hc0:0<=c/\c<=65536:=by rw[hc];unfold cnt;omega
 obtain⟨m,hm⟩:∃m:Nat,(c+63)/64=(m:Int):=⟨((c+63)/64).toNat,by omega⟩
 have hmk:∀w,(Instr.makeSlice 203 (.int .i64 ((c+63)/64)) (.int .i64 ((c+63)/64))).run Tryz.prog w=.ok (.slice (some ⟨w.heap.size,0,none⟩) m m) (w.alloc (.cells (madeCells #[.int .u64 0] m) 98)):=λw=>by
  rw[hm];exact run_make_row' 203 98 (.int .u64 0) 8 Tryz.underlying203 infoW rfl .i64 .i64 m (by omega) (by omega) w
 have hw:IntKind.i64.wrap (c+64)=c+64:=IntWalk.i64_in _ (by omega);have hw2:IntKind.i64.wrap (c+64-1)=c+63:=by rw[show c+64-1=c+63 by omega];exact IntWalk.i64_in _ (by omega)
 have fin:∀w',Blk w' (w.heap.size+1) 205 #[.slice (some ⟨w.heap.size,0,none⟩) m m,.int .i64 c,.int .i64 0]->Blk w' w.heap.size 98 (madeCells #[.int .u64 0] m)->Below w.heap.size w w'->Fresh n w w':=λw' h1 h2 h3=>by
  have e: ((cnt n+63)/64).toNat=m:=by rw[<-hc,hm];rfl
  exact⟨by rw[e,<-hc];exact h1,by rw[e];exact h2,h3⟩
 have HF:=jq fin;clear fin;have hcase: (n<0/\c=0)\/(65536<n/\c=65536)\/(0<=n/\n<=65536/\c=n):=by rw[hc];unfold cnt;omega
 clear hc
 have fin2:∀c:Int,(∀w',Blk w' (w.heap.size+1) 205 #[.slice (some ⟨w.heap.size,0,none⟩) m m,.int .i64 c,.int .i64 0]->Blk w' w.heap.size 98 (madeCells #[.int .u64 0] m)->Below w.heap.size w w'->Fresh n w w')->
   Fresh n w ((w.alloc (.cells (madeCells #[.int .u64 0] m) 98)).alloc (.cells #[.slice (some ⟨w.heap.size,0,none⟩) m m,.int .i64 c,.int .i64 0] 205)):=λc h=>
  h _ (Blk.at_ (by rw[World.size_alloc])) ((Blk.new w _ _).alloc _) (((Below.refl _ w).alloc jn _).alloc (by simp) _)
 have HF2:=jq (fin2 c HF.out);clear fin2 HF;rcases hcase with⟨h,rfl⟩|⟨h,rfl⟩|⟨h,h2,rfl⟩
 ·obtain rfl:m=0:=by omega
  simp at hmk
  go_enter Tryz.func121,Tryz.ntmps121
  go_wp2_with fail
  go_ret
  exact⟨rfl,HF2.out⟩
 ·obtain rfl:m=1024:=by omega
  simp at hmk
  go_enter Tryz.func121,Tryz.ntmps121
  go_wp2_with fail
  go_ret
  exact⟨rfl,HF2.out⟩
 ·have HM:=jq hm;clear hm
  go_enter Tryz.func121,Tryz.ntmps121
  go_wp2_with fail
  go_ret
  exact⟨rfl,HF2.out⟩
end Ext
namespace Ext
open Go.RowKit Go.Shelf Mem
set_option maxRecDepth 100000
theorem free_any (C:Nat) (v:Value) (count taken:Int) (w:World) (h:Blk w C 205 #[v,.int .i64 count,.int .i64 taken]) (hc:0<=count/\count<=65536) (ht:0<=taken/\taken<=65536):
  Calls Tryz.prog 124 #[.pointer (some ⟨C,0,none⟩)] w λe w'=>e=.returned (.int .i64 (count-taken))/\∃n,w'=w.drewN n:=by
 have c1:=h.cell 1;have c2:=h.cell 2
 simp at c1 c2
 have hw:IntKind.i64.wrap (count-taken)=count-taken:=IntWalk.i64_in _ (by omega)
 go_enter Tryz.func124,Tryz.ntmps124
 go_wp2_with fail
 go_quiet (fail)
 go_wp2_with fail
 go_ret
 exact⟨rfl,_,rfl⟩
theorem is_any (C g m cap:Nat) (count taken i:Int) (x:Int) (w:World) (h:Blk w C 205 #[.slice (some ⟨g,0,none⟩) m cap,.int .i64 count,.int .i64 taken]) (hc:0<=count/\count<=65536)
  (h0:0<=i) (h1:i<count) (hm: (i/64).toNat<m) (hx:w.cell? ⟨g,(i/64).toNat,none⟩=some (.int .u64 x)):
  Calls Tryz.prog 166 #[.pointer (some ⟨C,0,none⟩),.int .i64 i] w λe w'=>e=.returned (.bool (bits .and .u64 (x/2^(i%64).toNat) 1==1))/\w=w':=by
 have c0:=h.cell 0;have c1:=h.cell 1
 simp at c0 c1
 have d0:decide (0<=i)=true:=by simpa using h0
 have d1:decide (i<count)=true:=by simpa using h1
 go_enter Tryz.func166,Tryz.ntmps166
 go_wp2_with fail
 go_ret
 exact⟨rfl,rfl⟩
end Ext
end Go.Proofs.YtfgjnpbffppocaaGreatDoor
