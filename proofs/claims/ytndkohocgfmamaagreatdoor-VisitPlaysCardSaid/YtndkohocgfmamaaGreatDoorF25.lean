/- Part. -/
import Derived.Test.YtndkohocgfmamaaGreatDoorF10
import Derived.Test.YtndkohocgfmamaaGreatDoorF20
import Derived.Test.YtndkohocgfmamaaGreatDoorShelf
set_option maxHeartbeats 2000000
set_option maxRecDepth 100000
namespace Go.Proofs.YtndkohocgfmamaaGreatDoor
open Go.Proofs.Tryz
namespace Read
open Go.RowKit Go.Deep Mem Crc
def fO(most:Nat):Nat->Nat->List UInt8->Nat×Nat×Int
 |_,_,[]=>(0,0,2)
 |i,n,c ::r=>
  if 64<i*7+Lib.bitLen (c.toNat%128)\/(0<i/\c.toNat=0)then(0,0,3)
  else if 127<c.toNat then fO most (i+1) (n+c.toNat%128*2^(7*i)) r
  else if most<n+c.toNat%128*2^(7*i)then(0,0,9)
  else(n+c.toNat%128*2^(7*i),i+1,0)
def Rd(B:Nat)(w:World)(r:Nat)(bs:List UInt8)(e:Int):Prop:=∃a cap,Blk w r 278 #[.slice a bs.length cap,.int .i64 e]/\bs.length<=cap/\bs.length<=4000000/\Lies w a (bs.map bv)/\(∀k,Mem.blk a=some k->k<B)/\B<=r
theorem Rd.lt{B:Nat}{w:World}{r:Nat}{bs:List UInt8}{e:Int}(h:Rd B w r bs e):r<w.heap.size:=by
 obtain⟨a,cap,b,_⟩:=h;exact b.lt
theorem Rd.upon{B:Nat}{X:Nat->Prop}{w w':World}{r:Nat}{bs:List UInt8}{e:Int}(h:Rd B w r bs e)(c:Upon X w w')(o:¬X r)(l:∀k,X k->B<=k):Rd B w' r bs e:=by
 obtain⟨a,cap,d,f,g,i,b,j⟩:=h;exact⟨a,cap,d.upon c o,f,g,i.upon c (λk m p=>by have:=b k m;have:=l k p;omega),b,j⟩
theorem Rd.later{B:Nat}{w w':World}{r:Nat}{bs:List UInt8}{e:Int}(h:Rd B w r bs e)(c:Below w.heap.size w w'):Rd B w' r bs e:=by
 obtain⟨a,cap,b,d,f,g,i⟩:=h;exact⟨a,cap,b.below c b.lt,d,f,g.later c,i⟩
theorem kg(B:Nat)(a:Option Addr)(cap:Nat)(bs:List UInt8)(w:World)(hc:bs.length<=cap)(j:bs.length<=4000000)(d:Lies w a (bs.map bv))(ha:∀k,Mem.blk a=some k->k<B)(b:B<=w.heap.size):
  Calls prog 159 #[.slice a bs.length cap] w λe w'=>∃r,e=.returned (.pointer (some ⟨r,0,none⟩))/\Rd B w' r bs 0/\w.heap.size<=r/\Below w.heap.size w w':=by
 obtain⟨n,c⟩:=jl bs.length;rw[<-c];have i:=jq c;have h:=jq d;have f:=jq ha;have g:=jq b;clear d ha c b
 go_enter func159,ntmps159
 go_wp2_with fail
 go_ret
 have b:Below w.heap.size w (w.alloc (.cells #[.slice a n cap,.int .i64 0] 278)):=(Below.refl _ w).alloc jn _;exact⟨w.heap.size,rfl,⟨a,cap,by rw[<-i.out];exact Blk.new w _ _,hc,j,h.out.later b,f.out,g.out⟩,aj _,b⟩
variable {w:World}{r:Nat}{bs:List UInt8}{k:Int}
theorem wG{B:Nat}(h:Rd B w r bs 0)(k:Int)(s:k≠0):
  Calls prog 181 #[.pointer (some ⟨r,0,none⟩),.int .i64 k] w λe w'=>e=.returned (.tuple #[])/\Rd B w' r bs k/\Only [r] w w':=by
 obtain⟨a,cap,hb,d,f,i,b,o⟩:=h;have c1:=hb.cell 1;have v:=hb.frozen 1
 simp at c1
 have u: (k==0)=false:=by simpa using s
 have c:Only [r] w (w.setCell ⟨r,1,none⟩ (.int .i64 k)):=(Only.refl [r] w).set (p:=⟨r,1,none⟩) (.inl (by simp)) _;have j:Rd B (w.setCell ⟨r,1,none⟩ (.int .i64 k)) r bs k:=⟨a,cap,hb.set 1 _,d,f,i.only c (λg q t=>by have:=b g q;rw[jE.1 t]at this;omega),b,o⟩;have m:=jq j;have l:=jq c;clear hb i b j c d f
 go_enter func181,ntmps181
 go_wp2_with fail
 go_end0
 exact⟨rfl,m.out,l.out⟩
theorem wH{B:Nat}(h:Rd B w r bs k):
  Calls prog 161 #[.pointer (some ⟨r,0,none⟩)] w λe w'=>e=.returned (.int .i64 k)/\w'=w:=by
 obtain⟨a,cap,hb,_⟩:=h;have c1:=hb.cell 1
 simp at c1
 clear hb
 go_enter func161,ntmps161
 go_wp2_with fail
 go_ret
 exact⟨rfl,rfl⟩
def kr(bs:List UInt8)(k:Int):Int:=if k=0 then(if bs= []then 0 else 4)else k
theorem OQ{B:Nat}(h:Rd B w r bs k):
  Calls prog 182 #[.pointer (some ⟨r,0,none⟩)] w λe w'=>e=.returned (.int .i64 (if k=0 then(bs.length:Int)else 0))/\w'=w:=by
 obtain⟨a,cap,hb,_⟩:=h;have c:=hb.cell 0;have c1:=hb.cell 1
 simp at c c1
 obtain⟨n,d⟩:=jl bs.length;rw[<-d]at c⊢;clear hb d
 by_cases b:k=0
 ·subst b;rw[if_pos rfl]
  go_enter func182,ntmps182
  go_wp2_with fail
  go_ret
  exact⟨rfl,rfl⟩
 ·have f: (k==0)=false:=by simpa using b
  rw[if_neg b]
  go_enter func182,ntmps182
  go_wp2_with fail
  go_ret
  exact⟨rfl,rfl⟩
theorem ED{B:Nat}(h:Rd B w r bs k):
  Calls prog 163 #[.pointer (some ⟨r,0,none⟩)] w λe w'=>e=.returned (.int .i64 (kr bs k))/\w'=w:=by
 have a:=jq (OQ h);have d:=jq (wH h);clear h
 by_cases c:k=0
 ·subst c;rw[if_pos rfl]at a
  by_cases hb:bs= []
  ·subst hb;have b:kr [] 0=0:=rfl;rw[b];simp only[List.length_nil]at a
   go_enter func163,ntmps163
   go_wp2_with fail
   refine a.out.mono ?_;rintro e w1 ⟨rfl,rfl⟩
   go_wp2_with fail
   refine d.out.mono ?_;rintro e w2 ⟨rfl,rfl⟩
   go_wp2_with fail
   go_ret
   exact⟨rfl,rfl⟩
  ·have b:kr bs 0=4:=by unfold kr;rw[if_pos rfl,if_neg hb]
   rw[b];obtain⟨n,f⟩:=jl bs.length;rw[<-f]at a
   have g:decide (0<n)=true:=jd (by
    have:bs.length≠0:=λh=>hb (List.length_eq_zero_iff.1 h)
    omega)
   clear hb b f
   go_enter func163,ntmps163
   go_wp2_with fail
   refine a.out.mono ?_;rintro e w1 ⟨rfl,rfl⟩
   go_wp2_with fail
   go_ret
   exact⟨rfl,rfl⟩
 ·rw[if_neg c]at a;have b:kr bs k=k:=by unfold kr;rw[if_neg c]
  rw[b];clear b c
  go_enter func163,ntmps163
  go_wp2_with fail
  refine a.out.mono ?_;rintro e w1 ⟨rfl,rfl⟩
  go_wp2_with fail
  refine d.out.mono ?_;rintro e w2 ⟨rfl,rfl⟩
  go_wp2_with fail
  go_ret
  exact⟨rfl,rfl⟩
theorem add_lit(b off n:Nat): (⟨b,off,none⟩:Addr).add n=⟨b,off+n,none⟩:=by
 unfold Addr.add
 split <;> simp_all
theorem add_block(p:Addr)(n:Nat): (p.add n).block=p.block:=by
 unfold Addr.add
 split <;> rfl
theorem EF(a:Option Addr)(len cap m:Nat)(o:m<=len)(q:len<=cap):∃a',(∀W:World,(Instr.sliceAt 84 (.slice a len cap) (some (.int .i64 (m:Int))) none none).run prog W=.ok (.slice a' (len-m) (cap-m)) W)/\Mem.blk a'=Mem.blk a/\
  ∀(W:World) (l:List UInt8),l.length=len->Lies W a (l.map bv)->Lies W a' ((l.drop m).map bv):=by
 have b:prog.elem 84=5:=by kernel_rfl
 have c:prog.underlying 84=some (.slice (prog.elem 84)):=by rw[b];exact underlying84
 have j:∀W:World,(sizeOf 5).run prog W=.ok 1 W:=λW=>by kernel_rfl
 refine⟨if cap=m then a else a.map (·.add (m*1)),λW=>?_,?_,λW l hl d=>?_⟩
 ·rw[run_sliceAt_slice W _ _ _ _ _ c,run_slice_l W _ _ _ _ c .i64 (m:Int) (by omega) (by omega),b,j]
  simp[Result.andThen,sliced]
 ·split
  ·rfl
  ·cases a with
   |none=>rfl
   |some p=>simp[Mem.blk,add_block]
 ·by_cases i:m=len
  ·left
   rw[i,<-hl,List.drop_length]
   rfl
  ·rw[if_neg (by omega)];rcases d with h|⟨g,off,rfl,f,hc⟩
   ·left
    rw[dM]at h;rw[h]
    simp
   ·have e: (some (⟨g,off,none⟩:Addr)).map (·.add (m*1))=some ⟨g,off+m,none⟩:=by
     rw[Nat.mul_one];show some ((⟨g,off,none⟩:Addr).add m)=_;rw[add_lit]
    rw[e,jV];exact Lies.drop (.inr ⟨g,off,rfl,f,hc⟩) m
theorem OT{a:Option Addr}(h:Lies w a (bs.map bv)){k:Nat}{c:UInt8}(b:bs[k]? =some c):∃g o,a=some ⟨g,o,none⟩/\w.cell? ⟨g,o+k,none⟩=some (bv c):=by
 obtain⟨g,o,rfl,_,hc⟩:=h.resolve_left (λe=>by rw[dM.1 e]at b;simp at b);exact⟨g,o,rfl,hc k _ (lI b)⟩
theorem OU(N x k:Nat)(a:N<2^k):N ||| x*2^k=N+x*2^k:=by
 rw[Nat.or_comm,Nat.add_comm,<-Nat.shiftLeft_eq,Nat.shiftLeft_add_eq_or_of_lt a]
theorem EG:∀n:Fin 128,n.val<2^Lib.bitLen n.val/\Lib.bitLen n.val<=7:=by decide +kernel
theorem OV{N x i:Nat}(p:N<2^(7*i))(h:i*7+Lib.bitLen (x%128)<=64):x%128*2^(7*i) <18446744073709551616/\N+x%128*2^(7*i) <18446744073709551616/\N+x%128*2^(7*i) <2^(7*(i+1))/\i<=9:=by
 obtain⟨a,b⟩:=EG ⟨x%128,fJ _ (by decide)⟩;dsimp only at a b;have d:x%128+1<=128:=by have:=fJ x (show 0<128 by decide);omega
 obtain⟨l,hl⟩:=jl (Lib.bitLen (x%128));rw[<-hl]at h a b;clear hl;obtain⟨y,c⟩:=jl (x%128);rw[<-c]at a d⊢;clear c;have e: (y+1)*2^(7*i)=y*2^(7*i)+2^(7*i):=eY _ _;have f: (y+1)*2^(7*i)<=2^(l+7*i):=by rw[Nat.pow_add];exact jD _ a
 have g:2^(l+7*i)<=2^64:=mq (by decide) (by omega);have j: (y+1)*2^(7*i)<=128*2^(7*i):=jD _ d;have m:128*2^(7*i)=2^(7*(i+1)):=by rw[show 7*(i+1)=7+7*i by omega,Nat.pow_add]
 have o: (2:Nat)^64=18446744073709551616:=by decide
 refine⟨by omega,by omega,by omega,by omega⟩
theorem OW:∀n:Fin 256,bits .and .u8 (n.val:Int) 127=((n.val%128:Nat):Int):=by decide +kernel
theorem OX{B:Nat}(h:Rd B w r bs k)(b:k≠0)(most:Nat):
  Calls prog 160 #[.pointer (some ⟨r,0,none⟩),.int .u64 (most:Int)] w λe w'=>e=.returned (.int .u64 0)/\w'=w:=by
 obtain⟨a,cap,hb,_⟩:=h;have c1:=hb.cell 1
 simp at c1
 have c: (k==0)=false:=by simpa using b
 clear hb
 go_enter func160,ntmps160
 go_wp2_with fail
 go_ret
 exact⟨rfl,rfl⟩
attribute [local go_sem] Oper.semAt_some
theorem OY{B:Nat}(h:Rd B w r bs 0)(most:Nat)(_:most<18446744073709551616):
  Calls prog 160 #[.pointer (some ⟨r,0,none⟩),.int .u64 (most:Int)] w λe w'=>e=.returned (.int .u64 ((fO most 0 0 bs).1:Int))/\Rd B w' r (bs.drop (fO most 0 0 bs).2.1) (fO most 0 0 bs).2.2/\Only [r] w w':=by
 obtain⟨a,cap,hb,h2,h3,h4,h5,h6⟩:=id h;have c0:=hb.cell 0;have c1:=hb.cell 1;have z0:=hb.frozen 0
 simp at c0 c1
 obtain⟨L,H⟩:=jl bs.length;rw[<-H]at c0 h2 h3;obtain⟨res,Q⟩:=jl (fO most 0 0 bs);rw[<-Q];have x7:=jq Q;have v:=jq H;have G:=jq h;have U:=jq h4;have HB:=jq hb;have V:=jq h5;have W:=jq h6;clear hb h4 h5 h6 h H Q
 go_enter func160,ntmps160
 go_wp2_with fail
 go_loopw[5,22] (λn i wr=>∃(k N:Nat),k<=L/\n=.int .u64 (N:Int)/\i=.int .i64 (k:Int)/\Hid (wr=w)/\Hid (N<2^(7*k))/\N<18446744073709551616/\Hid (fO most k N (bs.drop k)=res)) (λ_ i _=>L-(intOf i).toNat)
 case atStart=>exact⟨0,0,aC _,rfl,rfl,jq rfl,jq (by decide),by decide,jq x7.out.symm⟩
 case round=>
  obtain⟨k,N,hk,rfl,rfl,R,hN,y0,y⟩:=hrel;obtain rfl:wr=w:=R.out
  by_cases hlt:k<L
  ·have y5:decide ((k:Int) <(L:Int))=true:=jd (by omega);obtain⟨c,hc⟩:∃c,bs[k]? =some c:=⟨bs[k]'(by rw[<-v.out];exact hlt),jg _⟩;obtain⟨ga,oa,rfl,y2⟩:=OT U.out hc
   have x3:bs.drop k=c ::bs.drop (k+1):=by
    rw[uX (jS.1 hc).1,(jS.1 hc).2]
   have f:=y.out;rw[x3]at f;unfold fO at f;obtain⟨x,E⟩:=jl c.toNat;have y7:x<256:=by rw[E];exact c.toNat_lt
   rw[<-E]at f;have h7:bv c=.int .u8 (x:Int):=by rw[E];rfl
   rw[h7]at y2;have hand:bits .and .u8 (x:Int) 127=((x%128:Nat):Int):=OW ⟨x,y7⟩;have C:=λh=>OV (x:=x) (i:=k) hN.out h
   have x0:Lib.bitLen (x%128)<=7:=(EG ⟨x%128,fJ _ (by decide)⟩).2;have y8:x%128<128:=fJ _ (by decide);obtain⟨xm,x4⟩:=jl (x%128);rw[<-x4]at hand C x0 f y8;have A:=Tryz.bits_Len8 (xm:Int) wr (by omega) (by omega);have e8: (xm:Int).toNat=xm:=by omega
   rw[e8]at A;obtain⟨lb,O⟩:=jl (Lib.bitLen xm);rw[<-O]at A f C x0;have Z:=jq C;have X:=jq f;have x5:=jq A;have y9:=jq O;clear f A O x3 hc E h7 R y e8 C x4
   go_wp2_with fail
   refine x5.out.mono ?_;rintro e w1 ⟨rfl,rfl⟩
   by_cases u:64<k*7+lb\/(0<k/\x=0)
   ·have P:res=(0,0,3):=by
     have:=X.out;rw[if_pos u]at this;exact this.symm
    have j:=jq (wG G.out 3 (by decide));have l:=jq P
    by_cases z1:64<k*7+lb
    ·have h8:decide ((64:Int) <(k:Int)*7+(lb:Int))=true:=jd (by omega);clear u P
     go_wp2_with fail
     refine j.out.mono ?_;rintro e w2 ⟨rfl,d,b⟩;have s:=jq d;have o:=jq b;clear d b j
     go_wp2_with fail
     go_ret
     rw[l.out];exact⟨rfl,s.out,o.out⟩
    ·have h8:decide ((64:Int) <(k:Int)*7+(lb:Int))=false:=jf (by omega);have z2:decide (0<k)=true:=jd (by omega);have S: ((x:Int)==0)=true:=by simp;omega
     clear u P
     go_wp2_with fail
     refine j.out.mono ?_;rintro e w2 ⟨rfl,d,b⟩;have s:=jq d;have o:=jq b;clear d b j
     go_wp2_with fail
     go_ret
     rw[l.out];exact⟨rfl,s.out,o.out⟩
   ·have z:=X.out;rw[if_neg u]at z;obtain⟨s1,s2,T,s4⟩:=Z.out (by omega);obtain⟨m,D⟩:=jl (xm*2^(7*k))
    have z4:bits .or .u64 (N:Int) (m:Int)=((N+m:Nat):Int):=by
     rw[D,u64_or_nat N _ y0 s1,OU N xm (7*k) hN.out]
    rw[<-D]at s1 s2 T z;have h8:decide ((64:Int) <(k:Int)*7+(lb:Int))=false:=jf (by omega);have t:=jq z;have x9:=jq D;clear z D;obtain⟨kp,J⟩:=jl (decide (0<k))
    have h9:kp=true->((x:Int)==0)=false:=λh=>by
     have:0<k:=by rw[J]at h;exact of_decide_eq_true h
     simp
     omega
    have z3:decide (0<k)=kp:=J.symm;have F:=jq h9;have z5: ((xm:Int)*2^(7*k))=(m:Int):=by rw[x9.out];push_cast;rfl
    clear h9 J u Z
    by_cases hC:127<x
    ·have y3:decide (127<(x:Int))=true:=jd (by omega);have g:=t.out;rw[if_pos hC]at g;have Y:=jq g;clear g t;cases kp
     ·go_wp2_with fail
      exact⟨⟨k+1,N+m,by omega,by simp,by simp,jq (by trivial),jq T,s2,Y⟩,by simp[intOf];omega⟩
     ·have S:=F.out rfl
      go_wp2_with fail
      exact⟨⟨k+1,N+m,by omega,by simp,by simp,jq (by trivial),jq T,s2,Y⟩,by simp[intOf];omega⟩
    ·have y3:decide (127<(x:Int))=false:=jf (by omega);have g:=t.out;rw[if_neg hC]at g
     by_cases hM:most<N+m
     ·rw[if_pos hM]at g;have l:=jq g.symm;have y4:decide ((most:Int) <(N:Int)+(m:Int))=true:=jd (by omega);have j:=jq (wG G.out 9 (by decide));clear g t;cases kp
      all_goals
       first|(have S:=F.out rfl)|skip
       go_wp2_with fail
       refine j.out.mono ?_;rintro e w2 ⟨rfl,d,b⟩;have s:=jq d;have o:=jq b;clear d b j
       go_wp2_with fail
       go_ret
       rw[l.out];exact⟨rfl,s.out,o.out⟩
     ·rw[if_neg hM]at g;have l:=jq g.symm;have y4:decide ((most:Int) <(N:Int)+(m:Int))=false:=jf (by omega);obtain⟨a',y6,I,x1⟩:=EF (some ⟨ga,oa,none⟩) L cap (k+1) (by omega) h2;have x2: (((k+1:Nat):Int))=(k:Int)+1:=by push_cast;rfl
      rw[x2]at y6
      have h1:Rd B (w1.setCell ⟨r,0,none⟩ (.slice a' (L-(k+1)) (cap-(k+1)))) r (bs.drop (k+1)) 0:=by
       have y1:=HB.out.set 0 (.slice a' (L-(k+1)) (cap-(k+1)));have M: (bs.drop (k+1)).length=L-(k+1):=by rw[List.length_drop,v.out]
       refine⟨a',cap-(k+1),by rw[M];exact y1,by rw[M];omega,by rw[M];omega,?_,λq hq=>V.out q (by rw[<-I];exact hq),W.out⟩;have hu:Upon (λq=>q=r) w1 (w1.setCell ⟨r,0,none⟩ (.slice a' (L-(k+1)) (cap-(k+1)))):=(Upon.refl (λq=>q=r) w1).set (p:=⟨r,0,none⟩) (.inl rfl) _
       exact(x1 w1 bs v.out.symm U.out).upon hu (λq hq e=>by
        have:=V.out q (by rw[<-I];exact hq);have:=W.out
        omega)
      have h0:Only [r] w1 (w1.setCell ⟨r,0,none⟩ (.slice a' (L-(k+1)) (cap-(k+1)))):=(Only.refl [r] w1).set (p:=⟨r,0,none⟩) (.inl (by simp)) _;have x8:=jq h1;have x6:=jq h0;clear g t h1 h0 I x1 x2;cases kp
      all_goals
       first|(have S:=F.out rfl)|skip
       go_wp2_with fail
       go_ret
       rw[l.out];exact⟨rfl,x8.out,x6.out⟩
  ·have y5:decide ((k:Int) <(L:Int))=false:=jf (by omega);have f:=y.out;rw[rQ (by rw[<-v.out];omega)]at f;have l:=jq (show res=(0,0,2)from f.symm);have j:=jq (wG G.out 2 (by decide));clear f y R
   go_wp2_with fail
   refine j.out.mono ?_;rintro e w2 ⟨rfl,d,b⟩;have s:=jq d;have o:=jq b;clear d b j
   go_wp2_with fail
   go_ret
   rw[l.out];exact⟨rfl,s.out,o.out⟩
end Read
namespace dW
open Go.RowKit Go.Deep Mem Crc jZ Dk
def mV(bl:List (List UInt8))(n j:Nat):List UInt8:=((bl.drop (n*16)).take j).flatten
def gF(bl:List (List UInt8))(n:Nat):List UInt8:=mV bl n 16
variable {bl:List (List UInt8)}{n:Nat}
theorem zS{j:Nat}{b:List UInt8}(h:bl[n*16+j]? =some b):mV bl n (j+1)=mV bl n j++b:=by
 unfold mV;rw[bF,List.getElem?_drop,h,oO]
 simp
theorem zT{bl:List (List UInt8)}{n:Nat}(h:∀b∈bl,b.length=128):∀{j:Nat},n*16+j<=bl.length->(mV bl n j).length=j*128
 |0,_=>by simp[mV]
 |j+1,hj=>by
  have hb:bl[n*16+j]? =some bl[n*16+j]:=jg (by omega);rw[zS hb,jL,zT h (by omega),h _ (qE _)]
  omega
theorem EH(h:∀b∈bl,b.length=128)(c:n<2)(a:33<=bl.length): (gF bl n).length=2048:=zT h (by omega)
theorem OZ{d g:Nat}{O:Value}{m:DM}(n:Nat)(R:n<2){w:World}(h:Dk w d g O m)(L:m.off=false)(M:m.wt= [])(P:33<=m.bl.length):
  Calls prog 77 #[.pointer (some ⟨d,0,none⟩),.int .i64 (n:Int)] w λe w'=>∃v,e=.returned (.tuple #[v,.int .i64 0])/\ak w' w.heap.size v (gF m.bl n)/\Below w.heap.size w w':=by
 have N:=h.nil M;subst N;have H:=jq h;clear h
 go_enter func77,ntmps77
 go_wp2_with fail
 go_loopw[10,6] (λi o wr=>∃j:Nat,j<=16/\i=.int .i64 (j:Int)/\Hid (ak wr w.heap.size o (mV m.bl n j))/\Hid (Below w.heap.size w wr)) (λi _ _=>16-(intOf i).toNat)
 case atStart=>exact⟨0,by omega,rfl,jq (World.ownsRow_nil _ _ _ _),jq (Below.refl _ _)⟩
 case round=>
  obtain⟨j,Q,rfl,l,c⟩:=hrel
  by_cases J:j<16
  ·have hd:decide ((j:Int) <16)=true:=jd (by omega);obtain⟨b,hb⟩:∃b,m.bl[n*16+j]? =some b:=⟨m.bl[n*16+j]'(by omega),jg _⟩;have y:b.length=128:=H.out.len b (jM hb);have t:=jq (CX (n*16+j) (H.out.later c.out) L hb);have u:=c.out.size;have B: ((n*16+j:Nat):Int)=(n:Int)*16+(j:Int):=by push_cast;rfl
   rw[B]at t;have G:=jq (zS hb);have I:=jq (zT (n:=n) H.out.len (j:=j) (by omega));have x:=jq y;clear B hb y
   go_wp2_with fail
   refine t.out.mono ?_;rintro e w1 ⟨a,rfl,A,f⟩;have p:=own_later l.out f;obtain⟨S,w2,D,s,C⟩:=lQ w1 84 _ _ p a 128 b A (by rw[I.out,x.out];omega) (ax u f.size);rw[x.out]at D;rw[<-G.out]at s;have z:Below w.heap.size w w2:=(c.out.trans (f.mono u)).grown C (ax u f.size) (λq hq=>(p.lt q hq).1);have E:=jq z;have F:=jq s;clear p A f s C z hd l c t
   go_wp2_with (first|(at_builtin;refine Lib.wpList_append_run _ rfl _ _ _ _ rfl _ _ rfl rfl _ _ D ?_))
   exact⟨⟨j+1,J,by simp,F,E⟩,by simp[intOf];omega⟩
  ·obtain rfl:j=16:=by omega
   have hd:decide ((16:Int) <16)=false:=by decide
   go_wp2_with fail
   go_ret2
   exact⟨_,rfl,l.out,c.out⟩
theorem O0(c:UInt8)(w:World):Calls prog 79 #[bv c] w λe w'=>e=.returned (.bool (c !=0))/\w'=w:=by
 obtain⟨x,b⟩:=jl c.toNat;have d:bv c=.int .u8 (x:Int):=by rw[b];rfl
 have hc: (c !=0)= !((x:Int)==0):=by
  rw[Bool.eq_iff_iff];simp only[bne_iff_ne,ne_eq,Bool.not_eq_true',beq_eq_false_iff_ne];rw[b]
  constructor
  ·exact λh a=>h (UInt8.toNat_inj.1 (by simpa using a))
  ·exact λh a=>h (by rw[a];rfl)
 rw[d,hc];clear d hc b
 go_enter func79,ntmps79
 go_wp2_with fail
 go_ret
 exact⟨rfl,rfl⟩
theorem sZ(a:Option Addr)(cp:Nat)(bs:List UInt8)(w:World)(h:Lies w a (bs.map bv))(B:bs.length<=4000000):
  Calls prog 123 #[.slice a bs.length cp,.func (.func 79) #[] #[]] w λe w'=>∃i:Int,e=.returned (.int .i64 i)/\decide (0<=i)=bs.any (·!=0)/\w'=w:=by
 have H:=jq h;obtain⟨n,m⟩:=jl bs.length;rw[<-m]at B⊢;have q:=jq m;clear h m
 go_enter func123,ntmps123
 go_wp2_with fail
 go_loopw[8] (λi wr=>∃j:Nat,j<=n/\i=.int .i64 (j:Int)/\wr=w/\Hid ((bs.take j).any (·!=0)=false)) (λi _=>n-(intOf i).toNat)
 case atStart=>exact⟨0,by omega,rfl,rfl,jq rfl⟩
 case round=>
  obtain⟨j,E,rfl,rfl,f⟩:=hrel
  by_cases t:j<n
  ·have A:decide ((j:Int) <(n:Int))=true:=jd (by omega);obtain⟨c,hc⟩:∃c,bs[j]? =some c:=⟨bs[j]'(by rw[<-q.out];exact t),jg _⟩;obtain⟨g,off,rfl,_,hcs⟩:=H.out.resolve_left (λe=>by rw[dM.1 e]at hc;simp at hc);have z:wr.cell? ⟨g,off+j,none⟩=some (bv c):=hcs j (bv c) (lI hc);obtain⟨D,s⟩:=jl (bv c);have b:=O0 c wr;have d: (bs.take (j+1)).any (·!=0)=((bs.take j).any (·!=0)||(c !=0)):=by rw[bF,hc,List.any_append];simp
   have l: (c !=0)=true->bs.any (·!=0)=true:=λh=>jm.2 ⟨c,jM hc,h⟩
   rw[f.out,Bool.false_or]at d;obtain⟨C,u⟩:=jl ((c !=0));rw[<-s]at z b;rw[<-u]at b d l;have p:=jq b;have x:=jq d;have v:=jq l;clear hcs hc s b d l u f;cases C
   ·go_wp2_with (first|(go_at_call 79;refine p.out.mono ?_;rintro e w1 ⟨rfl,rfl⟩))
    exact⟨⟨j+1,t,by simp,by first|rfl|trivial,x⟩,by simp[intOf];omega⟩
   ·go_wp2_with (first|(go_at_call 79;refine p.out.mono ?_;rintro e w1 ⟨rfl,rfl⟩))
    go_ret
    exact⟨_,rfl,by rw[v.out (by trivial)];exact jd (by omega),rfl⟩
  ·obtain rfl:n=j:=by omega
   have A:decide ((n:Int) <(n:Int))=false:=jf (by omega);have o:=f.out;rw[jW (by rw[q.out];exact aj _)]at o;have y:=jq o;clear o f
   go_wp2_with fail
   go_ret
   exact⟨_,rfl,by rw[y.out];rfl,rfl⟩
theorem O1(a:Option Addr)(cp:Nat)(bs:List UInt8)(w:World)(h:Lies w a (bs.map bv))(b:bs.length<=4000000):
  Calls prog 78 #[.slice a bs.length cp,.func (.func 79) #[] #[]] w λe w'=>e=.returned (.bool (bs.any (·!=0)))/\w'=w:=by
 have H:=jq (sZ a cp bs w h b);clear h;obtain⟨n,c⟩:=jl bs.length;rw[<-c]at H⊢;obtain⟨z,d⟩:=jl (bs.any (·!=0));rw[<-d]at H⊢;clear c d b
 go_enter func78,ntmps78
 go_wp2_with fail
 refine H.out.mono ?_;rintro e w1 ⟨i,rfl,f,rfl⟩
 go_wp2_with fail
 go_ret
 exact⟨by rw[<-f];rfl,rfl⟩
end dW
end Go.Proofs.YtndkohocgfmamaaGreatDoor
