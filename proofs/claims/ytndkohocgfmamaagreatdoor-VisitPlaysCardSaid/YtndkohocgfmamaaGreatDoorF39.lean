/- Part. -/
import Derived.Test.YtndkohocgfmamaaGreatDoorF26
import Derived.Lib.ItoaWalk
set_option maxHeartbeats 1000000
set_option maxRecDepth 100000
namespace Go.Proofs.YtndkohocgfmamaaGreatDoor
open Go.Proofs.Tryz
namespace Vp
open Go.RowKit Go.Deep Mem Crc Merge aX
attribute [local go_sem] Oper.semAt_some
theorem Te(n k:Nat)(a:k<8): (bB 8 n)[k]? =some (UInt8.ofNat (n/256^(7-k))):=by
 rcases(show k=0\/k=1\/k=2\/k=3\/k=4\/k=5\/k=6\/k=7 by omega)with rfl|rfl|rfl|rfl|rfl|rfl|rfl|rfl <;> rfl
def qo(k:Nat):Nat:=72057594037927936/256^k
theorem Tf(k:Nat)(a:k<8):0<qo k/\qo k<=72057594037927936/\qo (k+1)=qo k/256/\qo k=256^(7-k):=by
 unfold qo;rcases(show k=0\/k=1\/k=2\/k=3\/k=4\/k=5\/k=6\/k=7 by omega)with rfl|rfl|rfl|rfl|rfl|rfl|rfl|rfl <;> decide
theorem Tg(n:Nat)(Q:n<=av)(w:World):
  Calls prog 63 #[.int .u64 (n:Int)] w λe w'=>∃v,e=.returned v/\ak w' w.heap.size v (bB 8 n)/\Below w.heap.size w w':=by
 obtain⟨W1,c⟩:=jl (w.alloc (.cells #[] 5));have D:Below w.heap.size w W1:=by rw[c];exact(Below.refl _ w).alloc jn _
 have G:ak W1 w.heap.size (.slice (some ⟨w.heap.size,0,none⟩) 0 0) []:=by rw[c];exact fT w 5 1
 have J:=jq D;have L:=jq G;have N:=jq c;clear D G c
 go_enter func63,ntmps63
 go_wp2_with fail
 rw[<-N.out]
 go_loopw[3,4,5] (λout U i wr=>∃(k p:Nat),k<=8/\i=.int .i64 (k:Int)/\U=.int .u64 (p:Int)/\Hid (p=qo k)/\Hid (ak wr w.heap.size out ((bB 8 n).take k))/\Hid (Below w.heap.size w wr)) (λ_ _ i _=>8-(intOf i).toNat)
 case atStart=>exact⟨0,72057594037927936,by omega,rfl,rfl,jq rfl,L,J⟩
 case round=>
  obtain⟨k,p,V,rfl,rfl,M,l,h⟩:=hrel
  by_cases hlt:k<8
  ·have W:decide ((k:Int) <8)=true:=jd (by omega);obtain⟨f1,A,o,s⟩:=Tf k hlt;rw[<-M.out]at f1 A o s;obtain⟨q,hq⟩:=jl (n/p);obtain⟨r,H⟩:=jl (q%256);obtain⟨f,x⟩:=jl (p/256);have S:q<=n:=by rw[hq];exact Nat.div_le_self _ _
   have R:n<=18446744073709551615:=Q;have w0:¬((p:Int)=0):=by omega
   have X:p≠0:=by omega
   have Z: (n:Int).tdiv (p:Int)=(q:Int):=by rw[hq,uZ (by omega)];exact Int.natCast_ediv n p
   have w5:IntKind.u64.wrap (q:Int)=(q:Int):=by rw[IntKind.wrap_u64];omega
   have w6: (q:Int).tmod 256=(r:Int):=by rw[H,qD (by omega)];omega
   have w7: (p:Int).tdiv 256=(f:Int):=by rw[x,uZ (by omega)];omega
   have w8:IntKind.u64.wrap (f:Int)=(f:Int):=by rw[IntKind.wrap_u64];omega
   have w9:IntKind.u8.wrap (r:Int)=(r:Int):=by rw[IntKind.wrap_u8];omega
   have Y:IntKind.u64.wrap (r:Int)=(r:Int):=by rw[IntKind.wrap_u64];omega
   have F: [UInt8.ofNat (n/256^(7-k))].map bv= [.int .u8 (r:Int)]:=by
    show [bv (UInt8.ofNat (n/256^(7-k)))]=_;unfold bv;rw[<-s,<-hq,show(UInt8.ofNat q).toNat=r by simp;omega]
   have z:=jq (And.intro x o);obtain⟨va,vc,rfl,-⟩:=own_shape l.out;have d: ((bB 8 n).take k).length=k:=by rw[jT,gJ];omega
   have I: (bB 8 n).take (k+1)=(bB 8 n).take k++ [UInt8.ofNat (n/256^(7-k))]:=by rw[bF,Te n k hlt];rfl
   have y:Hid (∃a w',(Builtin.append_ #[84,84] 84 #[.slice va k vc,.slice (some ⟨wr.heap.size,0,none⟩) 1 1]).run prog (wr.alloc (.cells #[.int .u8 (r:Int)] 5))=.ok a w'/\ak w' w.heap.size a ((bB 8 n).take (k+1))/\Below w.heap.size w w'):=jq (by
    have t:=h.out.alloc h.out.size (Obj.cells #[.int .u8 (r:Int)] 5);have E:=own_later l.out ((Below.refl _ wr).alloc jn (Obj.cells #[.int .u8 (r:Int)] 5))
    have u:Lies (wr.alloc (.cells #[.int .u8 (r:Int)] 5)) (some ⟨wr.heap.size,0,none⟩) ([UInt8.ofNat (n/256^(7-k))].map bv):=by
     rw[F];obtain⟨_,_,e,_,u,_,_⟩:=own_shape (World.ownsRow_lit (e:=5) (size:=1) wr #[.int .u8 (r:Int)] 1 jn (by decide) rfl);injection e with e _ _;rw[e];exact u
    obtain⟨a,w',B,C,O⟩:=lQ (wr.alloc (.cells #[.int .u8 (r:Int)] 5)) 84 _ _ E (some ⟨wr.heap.size,0,none⟩) 1 [UInt8.ofNat (n/256^(7-k))] u (by rw[d];simp;omega) t.size;rw[<-I]at C;rw[d]at B;exact⟨a,w',B,C,t.grown O t.size (λg P=>(E.lt g P).1)⟩)
   rw[d];obtain⟨a,w',T,m,j⟩:=y.out;have m:=jq m;have j:=jq j;clear y F I hq H x S f1 A o s d R
   go_wp2_with (first|(at_builtin;refine Lib.wpList_append_run _ rfl _ _ _ _ rfl _ _ rfl rfl _ _ T ?_))
   go_roundw
   case rel=>exact⟨k+1,f,by omega,by go_num,rfl,jq (by rw[z.out.1,<-z.out.2]),m,j⟩
   case measure=>simp[intOf];omega
  ·obtain rfl:k=8:=by omega
   have b:=l.out;rw[jW (by rw[gJ];omega)]at b;have b:=jq b
   go_wp2_with fail
   go_ret
   exact⟨_,rfl,b.out,h.out⟩
theorem Ti(l:List UInt8)(i:Nat)(b:UInt8)(h:l[i]? =some b)(w:World): (Instr.index 9 (.string ⟨l.toArray⟩) (.int .i64 (i:Int))).run prog w=.ok (.int .u8 (b.toNat:Int)) w:=by
 obtain⟨hl,hb⟩:=jS.1 h;rw[run_index_string w 9 ⟨l.toArray⟩ .i64 _ underlying9,dif_pos ⟨by omega,Int.ofNat_lt.2 (show i<l.toArray.size by simpa using hl)⟩];have e: ((i:Int)).toNat=i:=by omega
 simp only[e];rw[Lib.getD_at ⟨l.toArray⟩ i (by show i<l.toArray.size;simpa using hl)]
 simp[List.getD,h]
theorem xJ(l:List UInt8)(b:UInt8)(n:Nat):bO (l++ [b]) n=256*bO l n+b.toNat:=by rw[Ip];rfl
theorem ou(l:List UInt8):∀n,bO l n<(n+1)*256^l.length:=by
 induction l with
 |nil=>intro n;simp[bO]
 |cons a t b=>
  intro n;simp only[bO,List.length_cons];refine aD (b _) ?_;have:=a.toNat_lt;rw[iJ,iy _ 256,<-mG];exact jD _ (by omega)
theorem Tj{l:List UInt8}(hl:l.length=8){k:Nat}(b:k<8):bO (l.take k) 0<=72057594037927935:=by
 have h:=ou (l.take k) 0;have a: (l.take k).length=k:=by rw[jT];omega
 rw[a,Nat.zero_add,Nat.one_mul]at h;have:256^k<=256^7:=mq (by decide) (by omega);have: (256:Nat)^7=72057594037927936:=by decide
 omega
theorem Iq(bs:List UInt8)(hl:bs.length=8)(w:World):
  Calls prog 121 #[.string ⟨bs.toArray⟩] w λe w'=>e=.returned (.int .u64 (bO bs 0:Nat))/\Below w.heap.size w w':=by
 have f:Hid (∀(i:Nat) (b:UInt8),bs[i]? =some b->∀W:World,(Instr.index 9 (.string ⟨bs.toArray⟩) (.int .i64 (i:Int))).run prog W=.ok (.int .u8 (b.toNat:Int)) W):=jq (λi b h W=>Ti bs i b h W);obtain⟨x,l⟩:∃s:ByteArray,s=⟨bs.toArray⟩:=⟨_,rfl⟩;rw[<-l]at f⊢;clear l
 go_enter func121,ntmps121
 go_wp2_with fail
 go_loopw[3,4] (λv i wr=>∃(k n:Nat),k<=8/\i=.int .i64 (k:Int)/\v=.int .u64 (n:Int)/\Hid (n=bO (bs.take k) 0)/\Hid (Below w.heap.size w wr)) (λ_ i _=>8-(intOf i).toNat)
 case atStart=>exact⟨0,0,by omega,rfl,rfl,jq (by simp[bO]),jq (Below.refl _ _)⟩
 case round=>
  obtain⟨k,n,t,rfl,rfl,a,d⟩:=hrel
  by_cases hlt:k<8
  ·have u:decide ((k:Int) <8)=true:=jd (by omega);obtain⟨b,hb⟩:∃b,bs[k]? =some b:=⟨_,jg (by omega)⟩;have r:=f.out k b hb;obtain⟨c,hc⟩:=jl b.toNat;have q:=b.toNat_lt;rw[<-hc]at r q;have j:=Tj hl hlt;rw[<-a.out]at j;have w1:IntKind.u64.wrap (256*(n:Int))=256*(n:Int):=by rw[IntKind.wrap_u64];omega
   obtain⟨m,g⟩:=jl (256*n+c);have w2:IntKind.u64.wrap (256*(n:Int)+(c:Int))=(m:Int):=by rw[IntKind.wrap_u64];omega
   have y:IntKind.u64.wrap (c:Int)=(c:Int):=by rw[IntKind.wrap_u64];omega
   have p:Hid (m=bO (bs.take (k+1)) 0):=jq (by rw[bF,hb];show m=bO (bs.take k++ [b]) 0;rw[xJ,<-a.out,g,hc]);clear g hb hc j
   go_wp2_with fail
   go_roundw
   case rel=>exact⟨k+1,m,by omega,by go_num,by go_num,p,d⟩
   case measure=>simp[intOf];omega
  ·obtain rfl:k=8:=by omega
   have o:Hid (n=bO bs 0):=jq (by have:=a.out;rwa [jW (by omega)]at this)
   go_wp2_with fail
   go_ret
   rw[<-o.out];exact⟨rfl,d.out⟩
open Store (nv)
theorem Ir(n:Nat)(h:n<=av)(W:World):Calls prog 63 #[.int .u64 (n:Int)] W λe w'=>∃a c,e=.returned (.slice a 8 c)/\Hid (Below W.heap.size W w')/\Hid (∀V,Below w'.heap.size w' V->(convert 84 9 (.slice a 8 c)).run prog V=.ok (.string ⟨(bB 8 n).toArray⟩) V):=by
 refine(Tg n h W).mono ?_;rintro e w' ⟨v,rfl,f,b⟩;obtain⟨a,c,rfl,_,d,_,_⟩:=own_shape f;rw[gJ];refine⟨a,c,rfl,jq b,jq (λV g=>?_)⟩;have:=Full.tX (vc:=c) (d.later g);rw[gJ]at this;exact this
theorem Tk(x y:List UInt8): (⟨x.toArray⟩:ByteArray)++ ⟨y.toArray⟩=⟨(x++y).toArray⟩:=by
 apply oQ
 simp
theorem Bo(s v c k:Nat)(x:k=s*4294967296+v)(y:s<4294967296)(z:v<4294967296)(hc:c<=av)(w:World):
  Calls prog 29 #[.agg #[.int .u32 (s:Int),.int .u32 (v:Int),.int .u64 (c:Int)]] w λe w'=>e=.returned (.string ⟨(ai (k,c)).toArray⟩)/\Below w.heap.size w w':=by
 have r:k<=av:=by unfold av;omega
 have m:=jq (λW=>Ir k r W);have n:=jq (λW=>Ir c hc W);have w1:IntKind.u64.wrap (s:Int)=(s:Int):=by rw[IntKind.wrap_u64];omega
 have w2:IntKind.u64.wrap ((s:Int)*4294967296)=(s:Int)*4294967296:=by rw[IntKind.wrap_u64];omega
 have l:IntKind.u64.wrap (v:Int)=(v:Int):=by rw[IntKind.wrap_u64];omega
 have R:IntKind.u64.wrap ((s:Int)*4294967296+(v:Int))=(k:Int):=by rw[IntKind.wrap_u64];omega
 obtain⟨s1,h⟩:∃s:ByteArray,s=⟨(bB 8 k).toArray⟩:=⟨_,rfl⟩;obtain⟨s2,i⟩:∃s:ByteArray,s=⟨(bB 8 c).toArray⟩:=⟨_,rfl⟩;have u:Hid (s1++s2=⟨(ai (k,c)).toArray⟩):=jq (by rw[h,i,Tk];rfl)
 have Q:¬(9223372036854775807<s1.size+s2.size):=by
  have J:s1.size=8:=by rw[h];exact gJ 8 k
  have L:s2.size=8:=by rw[i];exact gJ 8 c
  omega
 rw[<-h]at m;rw[<-i]at n;rw[<-u.out];obtain⟨W1,g⟩:=jl (w.alloc (.cells #[.int .u32 (s:Int),.int .u32 (v:Int),.int .u64 (c:Int)] 49));obtain⟨xb,j⟩:=jl w.heap.size;have q:Below w.heap.size w W1:=by rw[g];exact(Below.refl _ w).alloc jn _
 have f:Blk W1 xb 49 #[.int .u32 (s:Int),.int .u32 (v:Int),.int .u64 (c:Int)]:=by rw[g,j];exact Blk.new w _ _
 have M:W1.drew.cell? ⟨xb,0,none⟩=some (.int .u32 (s:Int))/\W1.drew.cell? ⟨xb,1,none⟩=some (.int .u32 (v:Int))/\W1.drew.cell? ⟨xb,2,none⟩=some (.int .u64 (c:Int)):=⟨f.cell 0,f.cell 1,f.cell 2⟩;have a:=jq f;have o:=jq q;clear f q x y z hc r h i
 go_enter func29,ntmps29
 go_wp2_with fail
 rw[<-g,<-j];clear g j
 go_region_law ((first|(have hq:=b.out;clear hq;go_simp;go_at_call 63;refine(n.out _).mono ?_;rintro e l ⟨H,I,rfl,d,t⟩;have P:=t.out l (Below.refl _ _);have O:=p.out l d.out;have d:=jq (b.out.trans (d.out.mono b.out.size));have D:=(a.out.below d.out a.out.lt).cell 0;have E:=(a.out.below d.out a.out.lt).cell 1;have F:=(a.out.below d.out a.out.lt).cell 2;simp at D E F)|(go_simp;go_at_call 63;refine(m.out _).mono ?_;rintro e w2 ⟨G,c2,rfl,b,p⟩;have N:=p.out w2 (Below.refl _ _);have b:=jq ((Below.refl W1.heap.size W1).drew.trans b.out);have A:=(a.out.below b.out a.out.lt).cell 0;have B:=(a.out.below b.out a.out.lt).cell 1;have C:=(a.out.below b.out a.out.lt).cell 2;simp at A B C)))
 all_goals trace_state
 all_goals
  go_wp2_with fail
  go_ret
  exact⟨rfl,o.out.trans (d.out.mono o.out.size)⟩
theorem Tm(l:List UInt8)(k:Nat)(a:k<=l.length)(w:World): (Instr.slice 9 (.string ⟨l.toArray⟩) none (some (.int .i64 (k:Int))) none).run prog w=.ok (.string ⟨(l.take k).toArray⟩) w:=by
 rw[run_slice_string_h w 9 ⟨l.toArray⟩ underlying9 .i64 (k:Int) (by omega) (Int.ofNat_le.2 (show k<=l.toArray.size by simpa using a))]
 congr 2
 apply oQ
 simp
theorem Tn(l:List UInt8)(k:Nat)(a:k<=l.length)(w:World): (Instr.slice 9 (.string ⟨l.toArray⟩) (some (.int .i64 (k:Int))) none none).run prog w=.ok (.string ⟨(l.drop k).toArray⟩) w:=by
 rw[run_slice_string_l w 9 ⟨l.toArray⟩ underlying9 .i64 (k:Int) (by omega) (Int.ofNat_le.2 (show k<=l.toArray.size by simpa using a))]
 congr 2
 apply oQ
 have: (⟨l.toArray⟩:ByteArray).size=l.length:=by show l.toArray.size=_;simp
 simp[this]
 exact jW (by rw[List.length_drop];omega)
theorem Tp(bs:List UInt8)(hl:bs.length=16)(k c:Nat)(F:k=bO (bs.take 8) 0)(hc:c=bO (bs.drop 8) 0)(w:World):
  Calls prog 75 #[.string ⟨bs.toArray⟩] w λe w'=>e=.returned (.agg #[.int .u32 ((k/4294967296:Nat):Int),.int .u32 ((k%4294967296:Nat):Int),.int .u64 (c:Int)])/\Below w.heap.size w w':=by
 have N:k<18446744073709551616:=by
  have:=ou (bs.take 8) 0;rw[show(bs.take 8).length=8 by rw[jT];omega]at this
  omega
 have i:=jq (Iq (bs.take 8) (by rw[jT];omega));have j:=jq (Iq (bs.drop 8) (by rw[List.length_drop];omega));have L:∀W,(Instr.slice 9 (.string ⟨bs.toArray⟩) none (some (.int .i64 8)) none).run prog W=.ok (.string ⟨(bs.take 8).toArray⟩) W:=Tm bs 8 (by omega);have M:∀W,(Instr.slice 9 (.string ⟨bs.toArray⟩) (some (.int .i64 8)) none none).run prog W=.ok (.string ⟨(bs.drop 8).toArray⟩) W:=Tn bs 8 (by omega);rw[<-F]at i;rw[<-hc]at j;obtain⟨Q,h⟩:∃s:ByteArray,s=⟨bs.toArray⟩:=⟨_,rfl⟩;obtain⟨s1,o⟩:∃s:ByteArray,s=⟨(bs.take 8).toArray⟩:=⟨_,rfl⟩;obtain⟨s2,q⟩:∃s:ByteArray,s=⟨(bs.drop 8).toArray⟩:=⟨_,rfl⟩;rw[<-h,<-o]at L;rw[<-h,<-q]at M;rw[<-o]at i;rw[<-q]at j;rw[<-h];obtain⟨a,ha⟩:=jl (k/4294967296);obtain⟨b,hb⟩:=jl (k%4294967296);have w1: (k:Int).tdiv 4294967296=(a:Int):=by rw[ha,uZ (by omega)];omega
 have w2: (k:Int).tmod 4294967296=(b:Int):=by rw[hb,qD (by omega)];omega
 have S:IntKind.u64.wrap (a:Int)=(a:Int):=by rw[IntKind.wrap_u64];omega
 have T:IntKind.u32.wrap (a:Int)=(a:Int):=by rw[IntKind.wrap_u32];omega
 have U:IntKind.u32.wrap (b:Int)=(b:Int):=by rw[IntKind.wrap_u32];omega
 have X:IntKind.u64.wrap (b:Int)=(b:Int):=by rw[IntKind.wrap_u64];omega
 rw[<-ha,<-hb];clear h o q hl F hc ha hb N;obtain⟨W1,f⟩:=jl (w.alloc (.cells #[.int .u32 0,.int .u32 0,.int .u64 0] 49));obtain⟨rb,g⟩:=jl w.heap.size;have A:Below w.heap.size w W1:=by rw[f];exact(Below.refl _ w).alloc jn _
 have E:Blk W1 rb 49 #[.int .u32 0,.int .u32 0,.int .u64 0]:=by rw[f,g];exact Blk.new w _ _
 have u:=jq E;have r:=jq A;have I:=jq g;clear E A
 go_enter func75,ntmps75
 go_wp2_with fail
 rw[<-f,<-g];clear f g;refine(i.out _).mono ?_;rintro e R ⟨rfl,B⟩;have t:=jq B;clear B
 go_wp2_with fail
 refine(j.out _).mono ?_;rintro e O ⟨rfl,C⟩;have l:=t.out.trans (C.mono t.out.size);have d:=u.out.below l u.out.lt;have J:=d.cell 0;have c1:=d.cell 1;have c2:=d.cell 2
 simp at J c1 c2
 have f0:=d.frozen 0;have f1:=d.frozen 1;have P:=d.frozen 2;have G:=jq (r.out.trans (l.mono r.out.size));have H:=jq d;clear C l d
 go_wp2_with fail
 generalize D: ((O.setCell ⟨rb,0,none⟩ (.int .u32 (a:Int))).setCell ⟨rb,1,none⟩ (.int .u32 (b:Int))).setCell ⟨rb,2,none⟩ (.int .u64 (c:Int))=V;have m:Blk V rb 49 #[.int .u32 (a:Int),.int .u32 (b:Int),.int .u64 (c:Int)]:=by rw[<-D];exact((H.out.set 0 _).set 1 _).set 2 _
 have x:=m.cell 0;have y:=m.cell 1;have z:=m.cell 2
 simp at x y z
 refine bodyPost_ret (v:=.agg #[.int .u32 (a:Int),.int .u32 (b:Int),.int .u64 (c:Int)]) (by simp[results,results75,go_sem,x,y,z]) rfl ⟨rfl,?_⟩;have n:w.heap.size<=rb:=by rw[I.out];exact aj _
 rw[<-D];exact((G.out.setCell (p:=⟨rb,0,none⟩) n _).setCell (p:=⟨rb,1,none⟩) n _).setCell (p:=⟨rb,2,none⟩) n _
end Vp
end Go.Proofs.YtndkohocgfmamaaGreatDoor
