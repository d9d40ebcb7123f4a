/- Part. -/
import Derived.Test.YtndkohocgfmamaaGreatDoorF5
set_option maxHeartbeats 1000000
set_option maxRecDepth 100000
namespace Go.Proofs.YtndkohocgfmamaaGreatDoor
open Go.Proofs.Tryz
namespace Text
open Go.RowKit Go.Deep Mem Crc
attribute [local go_sem] Oper.semAt_some
theorem AU:∀(f n:Nat) (acc:List UInt8),dK f n acc=dK f n []++acc
 |0,_,_=>rfl
 |f+1,n,acc=>by
  unfold dK
  split
  ·rfl
  ·rw[AU f (n/10) (dA n ::acc),AU f (n/10) [dA n],List.append_assoc]
   rfl
theorem GX:∀(f n:Nat),0<f->n<10^f->∀acc,dK (f+1) n acc=dK f n acc
 |0,_,h,_,_=>absurd h (qK _)
 |f+1,n,_,hn,acc=>by
  by_cases h:n/10=0
  ·unfold dK;rw[if_pos h,if_pos h]
  ·have a:0<f:=by
    rcases f with _|f
    ·simp at hn;omega
    ·omega
   have b:n/10<10^f:=by
    rw[qL (by decide),<-iJ];exact hn
   have:=GX f (n/10) a b (dA n ::acc);unfold dK;rw[if_neg h,if_neg h];exact this
theorem AX(n:Nat)(h:n<10):dec n= [dA n]:=by
 unfold dec dK;rw[if_pos (by omega)]
theorem Sq(n:Nat)(h:10<=n)(a:n<100000000000000000000):dec n=dec (n/10)++ [dA n]:=by
 unfold dec
 rw[show dK 20 n []=dK 19 (n/10) [dA n]by
  conv=>lhs;unfold dK
  rw[if_neg (by omega)],AU]
 rw[<-GX 19 (n/10) (by decide) (by have e: (10:Nat)^19=10000000000000000000:=(by decide);omega)]
theorem Sr(a b:List UInt8): ((⟨a.toArray⟩:ByteArray)++(⟨b.toArray⟩:ByteArray))=⟨(a++b).toArray⟩:=by
 apply oQ
 simp
theorem GY(n:Nat): (dec n).length<=20:=by
 have:=AY 20 n [];rw[List.length_nil,Nat.zero_add]at this;exact this
def nu(b:List UInt8):Value:=.string ⟨b.toArray⟩
theorem GZ(w:World)(x:Nat)(b:x<10): (convert 84 9 (.slice (some ⟨w.heap.size,0,none⟩) 1 1)).run prog (w.alloc (.cells #[.int .u8 (48+(x:Int))] 5))=.ok (nu [dA x]) (w.alloc (.cells #[.int .u8 (48+(x:Int))] 5)):=by
 have hd:=AZ x;rw[oP b]at hd;refine run_convert_bytes_back _ 84 9 5 ⟨w.heap.size,0,none⟩ 1 [dA x] underlying84 underlying5 underlying9 (λj a=>?_);have e:j=0:=by simpa using a
 subst e;have:=(Blk.new w 5 #[.int .u8 (48+(x:Int))]).cell 0
 simp[Addr.add,this,hd]
theorem He:∀(m n:Nat) (w:World),n<10^m->m<=20->n<18446744073709551616->
  Calls prog 61 #[.int .u64 (n:Int)] w λe w'=>e=.returned (nu (dec n))/\Below w.heap.size w w':=by
 intro m
 induction m with
 |zero=>
  intro n w h _ _;have B:n=0:=by simpa using h
  subst B;have v:=GZ w 0 (by decide);rw[AX 0 (by decide)]
  simp at v
  go_enter func61,ntmps61
  go_wp2_with fail
  go_ret
  exact⟨rfl,(Below.refl _ w).alloc jn _⟩
 |succ m c=>
  intro n w h H D
  by_cases d:n<10
  ·have v:=GZ w n d;rw[AX n d];clear h c D
   go_enter func61,ntmps61
   go_wp2_with fail
   go_ret
   exact⟨rfl,(Below.refl _ w).alloc jn _⟩
  ·have s:n/10<10^m:=by
    rw[qL (by decide),<-iJ];exact h
   have C:1<=m:=by
    rcases m with _|m
    ·simp at h;omega
    ·omega
   have t:n%10<10^m:=aD (fJ _ (by decide)) (by
    have:=mq (show 0<10 by decide) C
    omega)
   have k:=jq (λw=>c (n/10) w s (by omega) (by omega));have l:=jq (λw=>c (n%10) w t (by omega) (by omega))
   have j:=jq (show nu (dec n)=.string ((⟨(dec (n/10)).toArray⟩:ByteArray)++(⟨(dec (n%10)).toArray⟩:ByteArray))from by
    rw[Sr,AX (n%10) (by omega),Sq n (by omega) (by omega)];have:dA (n%10)=dA n:=by unfold dA;rw[Nat.mod_mod]
    rw[this]
    rfl)
   have y:=GY (n/10);have z:=GY (n%10);obtain⟨g,a⟩:∃g:ByteArray,g=⟨(dec (n/10)).toArray⟩:=⟨_,rfl⟩;obtain⟨i,b⟩:∃i:ByteArray,i=⟨(dec (n%10)).toArray⟩:=⟨_,rfl⟩;have F:g.size<=20:=by rw[a];simpa[ByteArray.size]using y
   have G:i.size<=20:=by rw[b];simpa[ByteArray.size]using z
   rw[<-a,<-b]at j;have o:=jq a;have p:=jq b;have E:10<=n:=by omega
   clear c h s t y z a b d;obtain⟨q,hq⟩:=jl (n/10);obtain⟨r,x⟩:=jl (n%10);have I: (n:Int)/10=(q:Int):=by omega
   have J: (n:Int)%10=(r:Int):=by omega
   rw[<-hq]at k o;rw[<-x]at l p;clear hq x
   go_enter func61,ntmps61
   go_wp2_with fail
   refine(k.out _).mono ?_;rintro e w1 ⟨rfl,f⟩;unfold nu;rw[<-o.out]
   go_wp2_with fail
   refine(l.out _).mono ?_;rintro e w2 ⟨rfl,u⟩;unfold nu;rw[<-p.out];have A:=jq (f.trans (u.mono f.size));clear f u
   go_wp2_with fail
   go_ret
   exact⟨by rw[j.out];rfl,A.out⟩
end Text
end Go.Proofs.YtndkohocgfmamaaGreatDoor
