/- Part. -/
import Derived.Test.YtndkohocgfmamaaGreatDoorF13
import Derived.Test.YtndkohocgfmamaaGreatDoorF15
import Derived.Test.YtndkohocgfmamaaGreatDoorF17
import Derived.Sort.QuietIn
import Derived.LoopIn
set_option maxHeartbeats 400000
set_option maxRecDepth 100000
namespace Go.Proofs.YtndkohocgfmamaaGreatDoor
open Go.Proofs.Tryz
namespace Chunk
open Go.RowKit Go.Deep Mem Crc oW
attribute [local go_sem] Oper.semAt_some
abbrev SL:=Option Addr×Nat×Nat
def sl(x:SL):Value:=.slice x.1 x.2.1 x.2.2
def piece(g off wd M k:Nat):SL:=(some ⟨g,off+k*wd,none⟩,min wd (M-k*wd),min wd (M-k*wd))
def pieces(g off wd M m:Nat):List SL:=(List.range m).map (piece g off wd M)
theorem nO(g off wd M m:Nat): (pieces g off wd M m).length=m:=by simp[pieces]
theorem yU(g off wd M k:Nat):pieces g off wd M (k+1)=pieces g off wd M k++ [piece g off wd M k]:=by simp[pieces,List.range_succ]
def sO(Bs Bn:Nat)(X Y:World):Prop:=X.heap.size<=Y.heap.size/\Y.heap[Bs]? =X.heap[Bs]?/\Y.heap[Bn]? =X.heap[Bn]?
def vN(X Y:World):Prop:=∃q,Y=X.drewN q
theorem yV(n:Nat)(hn:1<=n)(b a:Nat){w0:World}{g off wd M m c:Nat}(x2:0<wd)(x3:wd<=1000000)(h3:M<=c)(h5:M<=2000000)(h4:M<=m*wd)(V:∀k,k<m->k*wd<M)(Y:b<w0.heap.size)(X:a<w0.heap.size)(hcs:w0.cell? ⟨b,0,none⟩=some (.slice (some ⟨g,off,none⟩) M c))(R:w0.cell? ⟨a,0,none⟩=some (.int .i64 wd)):
  vL Fence.wide n prog 128 #[.pointer (some ⟨b,0,none⟩),.pointer (some ⟨a,0,none⟩)] (λx:SL=>#[sl x]) vN (sO b a) (λpre x _=>x=piece g off wd M pre.length) (λZ=>Z=pieces g off wd M m) (λpre=>∃k,k<=m/\pre=pieces g off wd M k) m w0:=by
 intro l J Jx W v N _ Q L;refine callsIn_of_wp func128 rfl trivial ?_ rfl;simp only[ntmps128,List.size_toArray,List.length_cons,List.length_nil,Nat.reduceAdd,Nat.reduceSub,Array.replicate_succ,Array.replicate_zero,List.push_toArray,List.append_toArray,List.nil_append,List.cons_append]
 gi_wp2
 gi_loopw [4] (λi wr=>∃k p:Nat,k<=m/\p=k*wd/\i=.int .i64 p/\J (pieces g off wd M k) wr/\sO b a W wr)
  (λi _=>M-(intOf i).toNat)
 case atStart=>exact⟨0,0,aC _,by simp,rfl,L,aj _,rfl,rfl⟩
 case round=>
  obtain⟨k,p,S,f,rfl,r,h⟩:=hrel;have A:wr.cell? ⟨b,0,none⟩=some (.slice (some ⟨g,off,none⟩) M c):=(World.cell?_of_block h.2.1).trans ((v.cell (p:=⟨b,0,none⟩) Y).trans hcs);have y:wr.cell? ⟨a,0,none⟩=some (.int .i64 wd):=(World.cell?_of_block h.2.2).trans ((v.cell (p:=⟨a,0,none⟩) X).trans R)
  by_cases hlt:k<m
  ·have U:p<M:=by rw[f];exact V k hlt
   have C:p+wd=(k+1)*wd:=by rw[f,eY]
   have t:=yU g off wd M k;obtain⟨q,hq⟩:=jl (min wd (M-p));have s:piece g off wd M k=(some ⟨g,off+p,none⟩,q,q):=by unfold piece;rw[<-f,<-hq]
   rw[s]at t;have x0:0<q:=by omega
   have h9:p+q<=M:=by omega
   have h6:min (wd:Int) ((M-p:Nat):Int)=(q:Int):=by omega
   have h7: (if M-p<wd then((M-p:Nat):Int)else(wd:Int))=(q:Int):=by split <;> omega
   have u:=jq t;have HP:=jq f;have H:=jq C;have I:=jq s;have T:decide ((p:Int) <(M:Int))=true:=jd (Int.ofNat_lt.2 U);have x1:IntKind.i64.wrap ((p:Int)+q)=(p:Int)+q:=by rw[IntKind.wrap_i64];omega
   have hw:IntKind.i64.wrap ((p:Int)+wd)=(p:Int)+wd:=by rw[IntKind.wrap_i64];omega
   have h8:p+wd<=4000000:=by omega
   have j:=jq h;have E:=jq r;clear h r t f C s hq
   gi_wp2
   gi_quiet (fail)
   have B: (wr.drewN nq).cell? ⟨b,0,none⟩=some (.slice (some ⟨g,off,none⟩) M c):=A;have z: (wr.drewN nq).cell? ⟨a,0,none⟩=some (.int .i64 wd):=y;obtain⟨fn,x4,assign,body,D,P⟩:=Q _ (some ⟨g,off+p,none⟩,q,q) (wr.drewN nq) (N _ _ _ E.out ⟨nq,rfl⟩) (by rw[nO];exact hlt) (by rw[nO];exact I.out.symm);unfold sl at D;dsimp only at D;clear A y
   gi_wp2
   refine P.mono ?_;rintro e o (⟨rfl,w,d⟩|⟨rfl,O⟩)
   ·have h2:o.cell? ⟨b,0,none⟩=some (.slice (some ⟨g,off,none⟩) M c):=(World.cell?_of_block d.2.1).trans B;have h1:o.cell? ⟨a,0,none⟩=some (.int .i64 wd):=(World.cell?_of_block d.2.2).trans z;have G:Hid (sO b a W o):=jq ⟨ax j.out.1 d.1,d.2.1.trans j.out.2.1,d.2.2.trans j.out.2.2⟩;have F:=jq w;clear B z d w
    gi_wp2
    go_roundw
    case rel=>exact⟨k+1,p+wd,by omega,H.out,by simp,by rw[u.out];exact F.out,G.out⟩
    case measure=>simp[intOf];omega
   ·gi_wp2
    refine bodyPost_ret (results_none rfl _ _ _) rfl ?_;exact⟨⟨_,rfl⟩,.inr ⟨_,⟨k+1,by omega,u.out.symm⟩,O⟩⟩
  ·obtain rfl:k=m:=Nat.le_antisymm S (Nat.not_lt.1 hlt);have T:decide ((p:Int) <(M:Int))=false:=jf (by omega)
   gi_wp2
   go_end0
   exact⟨⟨_,rfl⟩,.inl ⟨_,rfl,r⟩⟩
theorem qQ(a:Option Addr)(len c wd:Nat)(d:0<wd)(w:World):
  Calls prog 83 #[.slice a len c,.int .i64 wd] w λe w'=>e=.returned (.func (.func 128) #[] #[.pointer (some ⟨w.heap.size,0,none⟩),.pointer (some ⟨w.heap.size+1,0,none⟩)])/\w'=(w.alloc (.cells #[.slice a len c] 84)).alloc (.cells #[.int .i64 wd] 3):=by
 have b:decide ((wd:Int) <1)=false:=jf (by omega)
 go_enter func83,ntmps83
 go_wp2_with fail
 go_ret
 exact⟨rfl,rfl⟩
end Chunk
namespace Dk
open Go.RowKit Go.Deep Mem Crc
def DM.writes:DM->List (Nat×List UInt8)->DM×Int
 |m,[]=>(m,0)
 |m,x ::r=>if(m.write x.1 x.2).2=0 then(m.write x.1 x.2).1.writes r else m.write x.1 x.2
def aP(at_:Nat)(b:List UInt8):List (Nat×List UInt8):=(List.range 16).map λk=>(at_+k,(b.drop (k*128)).take 128)
def DM.slot(m:DM)(at_:Nat)(b:List UInt8):DM×Int:=if(m.writes (aP at_ b)).2=0 then(m.writes (aP at_ b)).1.sync else m.writes (aP at_ b)
def DM.dR(m:DM)(ver:Nat)(b:List UInt8):DM×Int:=if(m.slot (ver%2*16) b).2=0 then(m.slot (ver%2*16) b).1.slot ((ver+1)%2*16) b else m.slot (ver%2*16) b
theorem MC(m:DM):m.deed.1.wt=m.wt/\m.deed.1.bl=m.bl/\(m.deed.2=0->m.deed.1.off=m.off):=by
 unfold DM.deed
 split
 ·exact⟨rfl,rfl,λh=>by cases h⟩
 ·split <;> exact⟨rfl,rfl,λ_=>rfl⟩
theorem ME{m:DM}{i:Nat}{b:List UInt8}(h: (m.write i b).2=0): (m.write i b).1.bl=m.bl/\(m.write i b).1.off=m.off/\(m.write i b).1.wt=m.wt++ [(i,b)]:=by
 have hd:=MC m;unfold DM.write at h⊢
 split at h
 ·cases h
 ·rename_i a
  rw[if_neg a];refine⟨hd.2.1,?_,rfl⟩;show m.deed.1.off=m.off;unfold DM.deed;rw[if_neg a]
  split <;> rfl
theorem lH:∀{l:List (Nat×List UInt8)} {m:DM},(m.writes l).2=0->(m.writes l).1.bl=m.bl/\(m.writes l).1.off=m.off/\(m.writes l).1.wt=m.wt++l
 | [],m,_=>⟨rfl,rfl,by simp[DM.writes]⟩
 |x ::r,m,h=>by
  unfold DM.writes at h⊢
  by_cases a: (m.write x.1 x.2).2=0
  ·rw[if_pos a]at h⊢;obtain⟨d,e,f⟩:=lH h;obtain⟨b,c,g3⟩:=ME a;exact⟨d.trans b,e.trans c,by rw[f,g3];simp⟩
  ·rw[if_neg a]at h;exact absurd h a
theorem sP:∀(l:List (Nat×List UInt8)) (m:DM) (x:Nat×List UInt8),(m.writes l).2=0->m.writes (l++ [x])=(m.writes l).1.write x.1 x.2
 | [],m,x,_=>by
  show m.writes [x]=m.write x.1 x.2;unfold DM.writes
  split
  ·rename_i h;show((m.write x.1 x.2).1,(0:Int))=_;rw[<-h]
  ·rfl
 |y ::r,m,x,h=>by
  show m.writes (y ::(r++ [x]))=_;unfold DM.writes at h⊢
  by_cases a: (m.write y.1 y.2).2=0
  ·rw[if_pos a]at h⊢;rw[if_pos a];exact sP r _ x h
  ·rw[if_neg a]at h;exact absurd h a
theorem vO:∀{l r:List (Nat×List UInt8)} {m:DM},(m.writes l).2≠0->m.writes (l++r)=m.writes l
 | [],_,_,h=>absurd rfl h
 |x ::l,r,m,h=>by
  show m.writes (x ::(l++r))=_;unfold DM.writes at h⊢
  by_cases a: (m.write x.1 x.2).2=0
  ·rw[if_pos a]at h⊢;rw[if_pos a];exact vO h
  ·rw[if_neg a,if_neg a]
end Dk
end Go.Proofs.YtndkohocgfmamaaGreatDoor
