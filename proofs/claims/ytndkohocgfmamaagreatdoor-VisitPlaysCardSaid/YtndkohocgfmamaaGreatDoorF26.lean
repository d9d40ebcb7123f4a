/- Part. -/
import Derived.Test.YtndkohocgfmamaaGreatDoorF24
import Derived.Test.YtndkohocgfmamaaGreatDoorF25
set_option maxHeartbeats 4000000
set_option maxRecDepth 200000
namespace Go.Proofs.YtndkohocgfmamaaGreatDoor
open Go.Proofs.Tryz
namespace bQ
open Go.RowKit Go.Deep Mem Crc
open Store (nv)
theorem O3: (prog.info? 142).map (λi=>(i.zero,i.size,i.bytes))=some (some (.agg #[.string ⟨#[]⟩,.string ⟨#[]⟩]),2,32):=by kernel_rfl
theorem tT{base:Nat}(w:World)(k:TypeId)(v:Value)(l:List FF)(h:w.ownsRow base 142 2 v l.length (aU l))(x:FF)(G:l.length<=1000000)(hb:base<=w.heap.size):
  ∃c w',(Builtin.append_ #[40,40] k #[v,.slice (some ⟨w.heap.size,0,none⟩) 1 1]).run prog (w.alloc (.cells #[nv x.1,nv x.2] 142))=.ok c w'/\w'.ownsRow base 142 2 c (l++ [x]).length (aU (l++ [x]))/\w.grownBy w' v.ownBlock:=by
 obtain⟨i,z,E,o,t⟩:=info_parts O3;have f:Below w.heap.size w (w.alloc (.cells #[nv x.1,nv x.2] 142)):=(Below.refl _ w).alloc jn _
 obtain⟨c,w',D,A,y,_⟩:=run_append_own (P:=prog) (w.alloc (.cells #[nv x.1,nv x.2] 142)) base 40 k 142 i (.agg #[.string ⟨#[]⟩,.string ⟨#[]⟩]) 2 32 underlying40 z E o t rfl (by decide) v l.length (aU l) (own_later h f) ⟨w.heap.size,0,none⟩ 1 1 (FF.vs x) rfl (λj u a=>by
  have:=dQ (jG w 142 #[nv x.1,nv x.2]) j u (by simpa[FF.vs]using a);exact this) (λu a=>by
  unfold FF.vs at a;simp only[List.mem_cons,List.not_mem_nil,or_false]at a;rcases a with rfl|rfl <;> rfl) (by unfold maxLen;omega) (by omega) (ax hb f.size)
 refine⟨c,w',D,?_,sj f y⟩;have e:aU (l++ [x])=aU l++FF.vs x:=by unfold aU;rw[ig];simp
 rw[jL,e];exact A
def eH(l:List FF)(nm:List UInt8):List FF:=l.filter (λx=> !(x.1==nm))
theorem EI(t:TypeId)(a b:ByteArray):binOp .neq t (.string a) (.string b)=pure (.bool (!(a.toList==b.toList))):=by simp[binOp,Op.stringOp]
variable {l:List FF}{nm:List UInt8}
theorem take_len(k:Nat): (eH (l.take k) nm).length<=l.length:=ax (rX _ _) (by rw[jT];omega)
def dL(nm b:List UInt8)(s:List FF×Bool)(x:FF):List FF×Bool:=
 if(x.1==nm)=true then s else if s.2=false/\nm<x.1 then(s.1++ [(nm,b),x],true)else(s.1++ [x],s.2)
def gP(nm b:List UInt8)(l:List FF):List FF×Bool:=l.foldl (dL nm b) ([],false)
def eO(l:List FF)(nm b:List UInt8):List FF:=if(gP nm b l).2 then(gP nm b l).1 else(gP nm b l).1++ [(nm,b)]
theorem O4{b:List UInt8}{k:Nat}{x:FF}(h:l[k]? =some x):gP nm b (l.take (k+1))=dL nm b (gP nm b (l.take k)) x:=by
 unfold gP;rw[bF,h,kG]
 rfl
theorem O5(nm b:List UInt8)(l:List FF): (gP nm b l).1.length<=l.length+1:=by
 have h:∀(l:List FF) (s:List FF×Bool),(l.foldl (dL nm b) s).1.length+(if(l.foldl (dL nm b) s).2 then 0 else 1)<=s.1.length+(if s.2 then 0 else 1)+l.length:=by
  intro l
  induction l with
  |nil=>intro s;exact aj _
  |cons x r c=>
   intro s;have e:=c (dL nm b s x)
   have f: (dL nm b s x).1.length+(if(dL nm b s x).2 then 0 else 1)<=s.1.length+(if s.2 then 0 else 1)+1:=by
    unfold dL
    split
    ·omega
    ·split
     ·rename_i i a
      rw[a.1]
      simp
     ·dsimp only;rw[jL,List.length_singleton]
      omega
   rw[List.foldl_cons,List.length_cons]
   omega
 have:=h l ([],false)
 simp at this
 unfold gP
 omega
theorem zU{x y:List UInt8}{i j:ByteArray}(a:nv x=.string i)(c:nv y=.string j): (!Op.bytesLess i.toList j.toList&& !(i.toList==j.toList))=decide (y<x):=by
 unfold Store.nv at a c;injection a with a;injection c with c;subst a c;rw[Lib.toList_data,Lib.toList_data,bytesLess_eq];show(!decide (x<y)&& !(x==y))=decide (y<x);rw[Bool.eq_iff_iff];simp only[Bool.and_eq_true,Bool.not_eq_true',decide_eq_false_iff_not,beq_eq_false_iff_ne,decide_eq_true_eq]
 constructor
 ·rintro⟨k,o⟩;rcases oJ.1 (iM.1 k)with f|f
  ·exact f
  ·exact absurd f.symm o
 ·intro h;exact⟨List.lt_asymm h,λe=>by subst e;exact List.lt_irrefl _ h⟩
theorem EJ(t:TypeId)(a b:ByteArray):binOp .gtr t (.string a) (.string b)=pure (.bool (!Op.bytesLess a.toList b.toList&& !(a.toList==b.toList))):=by simp[binOp,Op.stringOp]
attribute [local go_sem] zR EJ
attribute [local go_sem] Oper.semAt_some
theorem iN(a:Option Addr)(cp:Nat)(l:List FF)(nm b:List UInt8)(w:World)(h:Lies w a (aU l))(hn:l.length<=100000):
  Calls prog 31 #[.slice a l.length cp,nv nm,nv b] w λe w'=>∃v,e=.returned v/\w'.ownsRow w.heap.size 142 2 v (eO l nm b).length (aU (eO l nm b))/\Below w.heap.size w w':=by
 obtain⟨n,h5⟩:=jl l.length;obtain⟨sn,h8⟩:∃b:ByteArray,nv nm=.string b:=⟨_,rfl⟩;obtain⟨sb,h7⟩:∃x:ByteArray,nv b=.string x:=⟨_,rfl⟩;rw[<-h5]at hn⊢;rw[h8,h7];have H:=jq h;have HN:=jq h5;have V:=jq h8;have x3:=jq h7;clear h h5 h8 h7
 go_enter func31,ntmps31
 go_wp2_with fail
 go_loopw[7,8,13] (λo dn i wr=>∃(k:Nat) (L:List FF) (D:Bool),k<=n/\i=.int .i64 (k:Int)/\dn=.bool D/\L.length<=100001/\Hid (gP nm b (l.take k)=(L,D))/\Hid (Below w.heap.size w wr)/\Hid (wr.ownsRow w.heap.size 142 2 o L.length (aU L))) (λ_ _ i _=>n-(intOf i).toNat)
 case atStart=>exact⟨0,[],false,aC _,rfl,rfl,aC _,jq rfl,jq ((Below.refl _ w).alloc jn _),jq (World.ownsRow_lit w #[] 0 jn (by decide) rfl)⟩
 case round=>
  obtain⟨k,L,D,hk,rfl,rfl,z0,hF,j,f⟩:=hrel
  by_cases R:k<n
  ·have z1:decide ((k:Int) <(n:Int))=true:=jd (by omega);obtain⟨x,N⟩:∃x,l[k]? =some x:=⟨l[k]'(by rw[<-HN.out];exact R),jg _⟩;have HX:=jq N;obtain⟨g,o,rfl,c0,c1⟩:=tO (H.out.later j.out) N;obtain⟨sx,G⟩:∃b:ByteArray,nv x.1=.string b:=⟨_,rfl⟩;obtain⟨sy,U⟩:∃b:ByteArray,nv x.2=.string b:=⟨_,rfl⟩;have T:gP nm b (l.take (k+1))=dL nm b (L,D) x:=by rw[O4 N,hF.out]
   have h4: (gP nm b (l.take (k+1))).1.length<=100001:=ax (O5 nm b _) (by rw[jT];omega);have I:=j.out.size;obtain⟨q,hq⟩:∃b:Bool,(sx.toList==sn.toList)=b:=⟨_,rfl⟩;obtain⟨Z,z2⟩:∃b:Bool,Op.bytesLess sx.toList sn.toList=b:=⟨_,rfl⟩;have S: (x.1==nm)=q:=by rw[<-tQ G V.out];exact hq
   have O:decide (nm<x.1)=(!Z&& !q):=by rw[<-zU G V.out,z2,hq]
   have y7:=jq G;have y8:=jq U;rw[G]at c0;rw[U]at c1;cases q
   ·have x7: (D=true\/Z=true)->gP nm b (l.take (k+1))=(L++ [x],D):=λX=>by
     rw[T];unfold dL
     rw[if_neg (by rw[S];exact mF),if_neg (λhc=>by
      rcases X with c|c
      ·rw[c]at hc;exact Bool.noConfusion hc.1
      ·rw[c]at O;exact(of_decide_eq_false O) hc.2)]
    have y1: (D=false/\Z=false)->gP nm b (l.take (k+1))=(L++ [(nm,b),x],true):=λX=>by
     rw[T];unfold dL;rw[if_neg (by rw[S];exact mF),if_pos ⟨X.1,of_decide_eq_true (by rw[O,X.2];rfl)⟩]
    obtain⟨ov,ow,Y,ho,hg⟩:=tT wr 40 _ _ f.out x (by omega) I;have x4:Below w.heap.size w ow:=j.out.grown hg I (λy J=>(f.out.lt y J).1);obtain⟨pv,pw,A,E,P⟩:=tT wr 40 _ _ f.out (nm,b) (by omega) I;have z:Below w.heap.size w pw:=j.out.grown P I (λy J=>(f.out.lt y J).1);obtain⟨rv,O6,h6,x8,x6⟩:=tT pw 40 _ _ E x (by rw[jL,List.length_singleton];omega) z.size;have x5:Below w.heap.size w O6:=z.grown x6 z.size (λy J=>(E.lt y J).1);obtain⟨g',o',e',d0,d1⟩:=tO (H.out.later z) N;cases e';obtain⟨oa,oc,rfl,_,_,_,_⟩:=own_shape f.out;obtain⟨pa,pc,rfl,_,_,_,_⟩:=own_shape E;have eL:L++ [(nm,b),x]=L++ [(nm,b)]++ [x]:=by rw[List.append_assoc];rfl
    obtain⟨ol,M⟩:=jl L.length;obtain⟨pl,x9⟩:=jl ((L++ [(nm,b)]).length);rw[<-M]at Y A⊢;rw[<-x9]at A h6;rw[y7.out,y8.out]at Y h6;rw[V.out,x3.out]at A;rw[G]at d0;rw[U]at d1;have x0:=jq ho;have h9:=jq x4;have y4:=jq x8;have y2:=jq x5;have x1:=jq x7;have y9:=jq y1;have h0:=jq h4;clear T ho hg x4 N G U j f M x9 E P z x8 x6 x5 x7 y1 h4 S O hF;cases D
    ·cases Z
     rotate_left
     ·go_wp2_with (first|(at_builtin;refine Lib.wpList_append_run _ rfl _ _ _ _ rfl _ _ rfl rfl _ _ Y ?_))
      have c:=x1.out (by simp);have t:=h0.out;rw[c]at t;exact⟨⟨k+1,L++ [x],false,R,by simp,rfl,t,jq c,h9,x0⟩,by simp[intOf];omega⟩
     ·go_wp2_with (first|(at_builtin;refine Lib.wpList_append_run _ rfl _ _ _ _ rfl _ _ rfl rfl _ _ A ?_)|(at_builtin;refine Lib.wpList_append_run _ rfl _ _ _ _ rfl _ _ rfl rfl _ _ h6 ?_))
      have c:=y9.out (by simp);have t:=h0.out;rw[c]at t;exact⟨⟨k+1,L++ [(nm,b),x],true,R,by simp,rfl,t,jq c,y2,jq (by rw[eL];exact y4.out)⟩,by simp[intOf];omega⟩
    ·go_wp2_with (first|(at_builtin;refine Lib.wpList_append_run _ rfl _ _ _ _ rfl _ _ rfl rfl _ _ Y ?_))
     have c:=x1.out (by simp);have t:=h0.out;rw[c]at t;exact⟨⟨k+1,L++ [x],true,R,by simp,rfl,t,jq c,h9,x0⟩,by simp[intOf];omega⟩
   ·have c:gP nm b (l.take (k+1))=(L,D):=by
     rw[T];unfold dL;rw[if_pos S]
    have H1:=jq c;clear T c h4 N G U S O hF
    go_wp2_with fail
    exact⟨⟨k+1,L,D,R,by simp,rfl,z0,H1,j,f⟩,by simp[intOf];omega⟩
  ·obtain rfl:n=k:=by omega
   have z1:decide ((n:Int) <(n:Int))=false:=jf (by omega);have h3:=hF.out;rw[jW (by rw[HN.out];exact aj _)]at h3;have I:=j.out.size;have y0:eO l nm b=if D then L else L++ [(nm,b)]:=by unfold eO;rw[h3]
   obtain⟨pv,pw,A,E,P⟩:=tT wr 40 _ _ f.out (nm,b) (by omega) I;have z:Below w.heap.size w pw:=j.out.grown P I (λy J=>(f.out.lt y J).1);obtain⟨oa,oc,rfl,_,_,_,_⟩:=own_shape f.out;obtain⟨ol,M⟩:=jl L.length;rw[<-M]at A⊢;rw[V.out,x3.out]at A;have y6:=jq E;have y3:=jq z;have x2:=jq y0;have y5:=jq M;clear hF h3 E z P y0 M;cases D
   ·go_wp2_with (first|(at_builtin;refine Lib.wpList_append_run _ rfl _ _ _ _ rfl _ _ rfl rfl _ _ A ?_))
    go_ret
    rw[x2.out];exact⟨_,rfl,y6.out,y3.out⟩
   ·go_wp2_with fail
    go_ret
    rw[x2.out];exact⟨_,rfl,by rw[y5.out];exact f.out,j.out⟩
end bQ
namespace bQ
open Go.RowKit
open Store (Files)
structure aQ(l:List FF)(F:Files):Prop where
 rise:l.Pairwise (λx y=>x.1<y.1)
 mem:∀nm b,(nm,b)∈l↔F nm=some b
variable {l:List FF}{F:Files}
theorem aQ.uniq{l2:List FF}(h:aQ l F)(k:aQ l2 F):l=l2:=by
 have a:∀x,x∈l↔x∈l2:=λx=>(h.mem x.1 x.2).trans (k.mem x.1 x.2).symm
 have key:∀(l l2:List FF),l.Pairwise (λx y=>x.1<y.1)->l2.Pairwise (λx y=>x.1<y.1)->(∀x,x∈l↔x∈l2)->l=l2:=by
  intro l
  induction l with
  |nil=>
   intro l2 _ _ a
   cases l2 with
   |nil=>rfl
   |cons y r=>exact absurd ((a y).2 (by simp)) (List.not_mem_nil)
  |cons x r A=>
   intro l2 D E a
   cases l2 with
   |nil=>exact absurd ((a x).1 (by simp)) (List.not_mem_nil)
   |cons y G=>
    obtain⟨i,o⟩:=eF.1 D;obtain⟨j,t⟩:=eF.1 E
    have v:x=y:=by
     rcases List.mem_cons.1 ((a x).1 (by simp))with e|e
     ·exact e
     ·rcases List.mem_cons.1 ((a y).2 (by simp))with f|f
      ·exact f.symm
      ·exact absurd (j x e) (List.lt_asymm (i y f))
    subst v;refine congrArg _ (A G o t (λz=>?_))
    constructor
    ·intro c;rcases List.mem_cons.1 ((a z).1 (eD _ c))with e|e
     ·subst e;exact absurd (i z c) (List.lt_irrefl _)
     ·exact e
    ·intro c;rcases List.mem_cons.1 ((a z).2 (eD _ c))with e|e
     ·subst e;exact absurd (j z c) (List.lt_irrefl _)
     ·exact e
 exact key l l2 h.rise k.rise a
theorem aQ.none_(h:aQ l F)(nm:List UInt8):F nm=none↔∀x∈l,x.1≠nm:=by
 constructor
 ·intro a x c e;have:=(h.mem x.1 x.2).1 c;rw[e,a]at this;cases this
 ·intro c
  cases a:F nm with
  |none=>rfl
  |some b=>exact absurd rfl (c (nm,b) ((h.mem nm b).2 a))
theorem aQ.without(h:aQ l F)(nm:List UInt8):aQ (eH l nm) (λx=>if x=nm then none else F x):=by
 refine⟨h.rise.sublist vo,λx b=>?_⟩;unfold eH;rw[iA,h.mem]
 by_cases e:x=nm
 ·subst e
  simp
 ·simp[e]
theorem aQ.find(h:aQ l F)(nm:List UInt8): (fE l nm<l.length↔F nm≠none)/\∀b,F nm=some b->l[fE l nm]? =some (nm,b):=by
 cases hf:F nm with
 |none=>
  have o:=(h.none_ nm).1 hf;have t:fE l nm=l.length:=EC (λj a y f=>o y (jM f));rw[t]
  simp
 |some b=>
  have x:=(h.mem nm b).2 hf;obtain⟨j,a⟩:=List.mem_iff_getElem?.1 x;have c:=(jS.1 a)
  have z:fE l nm=j:=EB a rfl (λi v y f e=>by
   have k:=jS.1 f;have:=qJ.1 h.rise i j k.1 c.1 v;rw[k.2,c.2,e]at this;exact List.lt_irrefl _ this)
  rw[z];exact⟨⟨λ_=>by simp,λ_=>c.1⟩,λA e=>by cases e;exact a⟩
theorem EK(nm b:List UInt8):∀(l acc:List FF),(∀x∈l,nm<x.1)->l.foldl (dL nm b) (acc,true)=(acc++l,true)
 | [],acc,_=>by simp
 |x ::r,acc,h=>by
  have a:=h x (by simp)
  have c: (x.1==nm)=false:=by
   rw[beq_eq_false_iff_ne];intro e;rw[e]at a;exact List.lt_irrefl _ a
  have e:dL nm b (acc,true) x=(acc++ [x],true):=by
   unfold dL;rw[c,if_neg mF,if_neg (λhc=>Bool.noConfusion hc.1)]
  rw[List.foldl_cons,e,EK nm b r (acc++ [x]) (λy f=>h y (by simp[f])),List.append_assoc]
  rfl
def endP(nm b:List UInt8)(s:List FF×Bool):List FF:=if s.2 then s.1 else s.1++ [(nm,b)]
theorem zV(nm b:List UInt8):∀(l acc:List FF),l.Pairwise (λx y=>x.1<y.1)->endP nm b (l.foldl (dL nm b) (acc,false))=acc++(l.filter (λx=>decide (x.1<nm))++(nm,b)::l.filter (λx=>decide (nm<x.1)))
 | [],acc,_=>by simp[endP]
 |x ::r,acc,hp=>by
  obtain⟨t,k⟩:=eF.1 hp;rw[List.foldl_cons]
  by_cases e:x.1=nm
  ·have c:dL nm b (acc,false) x=(acc,false):=by
    unfold dL;rw[if_pos (by simpa using e)]
   have f:decide (x.1<nm)=false:=jf (by rw[e];exact List.lt_irrefl _);have h:decide (nm<x.1)=false:=jf (by rw[e];exact List.lt_irrefl _);rw[c,zV nm b r acc k,jF,jF,f,h]
   rfl
  ·have o: (x.1==nm)=false:=by rw[beq_eq_false_iff_ne];exact e
   by_cases hlt:nm<x.1
   ·have c:dL nm b (acc,false) x=(acc++ [(nm,b),x],true):=by
     unfold dL;rw[o,if_neg mF,if_pos ⟨rfl,hlt⟩]
    have j:∀y∈r,nm<y.1:=λy a=>mD hlt (t y a)
    have z: (x ::r).filter (λx=>decide (x.1<nm))= []:=List.filter_eq_nil_iff.2 (λy a=>by
     have:nm<y.1:=by
      rcases List.mem_cons.1 a with rfl|a
      ·exact hlt
      ·exact j y a
     simpa using List.lt_asymm this)
    have v: (x ::r).filter (λx=>decide (nm<x.1))=x ::r:=vz.2 (λy a=>by
     have:nm<y.1:=by
      rcases List.mem_cons.1 a with rfl|a
      ·exact hlt
      ·exact j y a
     exact jd this)
    rw[c,EK nm b r _ j,z,v];unfold endP;rw[if_pos rfl]
    simp
   ·have A:x.1<nm:=by
     rcases oJ.1 (iM.1 hlt)with i|i
     ·exact i
     ·exact absurd i e
    have c:dL nm b (acc,false) x=(acc++ [x],false):=by
     unfold dL;rw[o,if_neg mF,if_neg (λhc=>hlt hc.2)]
    have f:decide (x.1<nm)=true:=jd A;have h:decide (nm<x.1)=false:=jf hlt;rw[c,zV nm b r (acc++ [x]) k,jF,jF,f,h,List.append_assoc]
    rfl
theorem EL(h:l.Pairwise (λx y=>x.1<y.1))(nm b:List UInt8):eO l nm b=l.filter (λx=>decide (x.1<nm))++(nm,b)::l.filter (λx=>decide (nm<x.1)):=by
 have:=zV nm b l [] h;rw[List.nil_append]at this;exact this
theorem aQ.put(h:aQ l F)(nm b:List UInt8):aQ (eO l nm b) (λx=>if x=nm then some b else F x):=by
 rw[EL h.rise];refine⟨gM.2 ⟨h.rise.sublist vo,eF.2 ⟨λy i=>?_,h.rise.sublist vo⟩,λx o y i=>?_⟩,λx c=>?_⟩
 ·exact of_decide_eq_true (iA.1 i).2
 ·have k:x.1<nm:=of_decide_eq_true (iA.1 o).2;rcases List.mem_cons.1 i with rfl|i
  ·exact k
  ·exact mD k (of_decide_eq_true (iA.1 i).2)
 ·rw[List.mem_append,List.mem_cons,iA,iA,h.mem,decide_eq_true_eq,decide_eq_true_eq]
  by_cases e:x=nm
  ·subst e;rw[if_pos rfl]
   constructor
   ·rintro(⟨_,a⟩|a|⟨_,a⟩)
    ·exact absurd a (List.lt_irrefl _)
    ·cases a;rfl
    ·exact absurd a (List.lt_irrefl _)
   ·intro a;cases a;exact .inr (.inl rfl)
  ·rw[if_neg e]
   constructor
   ·rintro(⟨f,_⟩|a|⟨f,_⟩)
    ·exact f
    ·cases a;exact absurd rfl e
    ·exact f
   ·intro f
    by_cases hlt:x<nm
    ·exact .inl ⟨f,hlt⟩
    ·rcases oJ.1 (iM.1 hlt)with j|j
     ·exact .inr (.inr ⟨f,j⟩)
     ·exact absurd j.symm e
end bQ
namespace bQ
open Go.RowKit Go.Deep Mem Crc
open Store (nv)
attribute [local go_sem] zR EI
attribute [local go_sem] Oper.semAt_some
theorem O7(a:Option Addr)(cp:Nat)(l:List FF)(nm:List UInt8)(w:World)(h:Lies w a (aU l))(Y:l.length<=1000000):
  Calls prog 59 #[.slice a l.length cp,nv nm] w λe w'=>∃v,e=.returned v/\w'.ownsRow w.heap.size 142 2 v (eH l nm).length (aU (eH l nm))/\Below w.heap.size w w':=by
 obtain⟨n,J⟩:=jl l.length;obtain⟨sn,N⟩:∃b:ByteArray,nv nm=.string b:=⟨_,rfl⟩;rw[<-J]at Y⊢;rw[N];have H:=jq h;have G:=jq J;have V:=jq N;clear h J N
 go_enter func59,ntmps59
 go_wp2_with fail
 go_loopw[5,10] (λo i wr=>∃k:Nat,k<=n/\i=.int .i64 (k:Int)/\Hid (Below w.heap.size w wr)/\Hid (wr.ownsRow w.heap.size 142 2 o (eH (l.take k) nm).length (aU (eH (l.take k) nm)))) (λ_ i _=>n-(intOf i).toNat)
 case atStart=>exact⟨0,aC _,rfl,jq ((Below.refl _ w).alloc jn _),jq (World.ownsRow_lit w #[] 0 jn (by decide) rfl)⟩
 case round=>
  obtain⟨k,hk,rfl,t,f⟩:=hrel
  by_cases I:k<n
  ·have X:decide ((k:Int) <(n:Int))=true:=jd (by omega);obtain⟨x,E⟩:∃x,l[k]? =some x:=⟨l[k]'(by rw[<-G.out];exact I),jg _⟩;obtain⟨g,o,rfl,O,c1⟩:=tO (H.out.later t.out) E;obtain⟨sx,z⟩:∃b:ByteArray,nv x.1=.string b:=⟨_,rfl⟩;obtain⟨sy,D⟩:∃b:ByteArray,nv x.2=.string b:=⟨_,rfl⟩
   have c:eH (l.take (k+1)) nm=eH (l.take k) nm++(if(x.1==nm)=true then []else [x]):=by
    unfold eH;rw[bF,E,oK]
    congr 1
    by_cases e:x.1=nm <;> simp[e]
   rw[<-tQ z V.out]at c;have T:=t.out.size;obtain⟨q,hq⟩:∃b:Bool,(sx.toList==sn.toList)=b:=⟨_,rfl⟩;rw[hq]at c;cases q
   ·have c:eH (l.take (k+1)) nm=eH (l.take k) nm++ [x]:=c;obtain⟨ov,ow,M,L,R⟩:=tT wr 40 _ _ f.out x (ax (take_len k) (by rw[<-G.out];omega)) T;have P:Below w.heap.size w ow:=t.out.grown R T (λy Z=>(f.out.lt y Z).1);obtain⟨oa,oc,rfl,_,_,_,_⟩:=own_shape f.out;obtain⟨ol,S⟩:=jl ((eH (l.take k) nm).length);rw[<-S]at M⊢;rw[z,D]at M;rw[z]at O;rw[D]at c1;rw[<-c]at L;have A:=jq L;have U:=jq P;clear c L R P E z D t f S
    go_wp2_with (first|(at_builtin;refine Lib.wpList_append_run _ rfl _ _ _ _ rfl _ _ rfl rfl _ _ M ?_))
    exact⟨⟨k+1,I,by simp,U,A⟩,by simp[intOf];omega⟩
   ·have c:eH (l.take (k+1)) nm=eH (l.take k) nm:=by rw[c];simp
    rw[z]at O;rw[D]at c1;have j:=f.out;rw[<-c]at j;have A:=jq j;clear c j E z D f
    go_wp2_with fail
    exact⟨⟨k+1,I,by simp,t,A⟩,by simp[intOf];omega⟩
  ·obtain rfl:n=k:=by omega
   have X:decide ((n:Int) <(n:Int))=false:=jf (by omega);have j:=f.out;rw[jW (by rw[G.out];exact aj _)]at j;have A:=jq j;clear f j
   go_wp2_with fail
   go_ret
   exact⟨_,rfl,A.out,t.out⟩
end bQ
namespace kY
open Go.RowKit Go.Deep Mem Crc Full EM aA
theorem O8(x:Nat)(h:x<2^32): (x%2=1->bits .xor .u32 ((x:Int)/2) 3988292384=(iF x:Int))/\(x%2=0->(x:Int)/2=(iF x:Int)):=by
 constructor
 ·intro a;unfold iF;rw[a,Nat.mul_one,show(x:Int)/2=((x/2:Nat):Int)by omega];exact u32_xor_nat (x/2) 3988292384 (by omega) (by decide)
 ·intro a;unfold iF;rw[a,Nat.mul_zero,Nat.xor_zero]
  omega
theorem O9(a:Option Addr)(cp:Nat)(bs:List UInt8)(w:World)(h:Lies w a (bs.map bv))(hn:bs.length<=4000000):
  Calls prog 147 #[.slice a bs.length cp] w λe w'=>e=.returned (.int .u32 (ko bs:Int))/\w'=w:=by
 obtain⟨n,T⟩:=jl bs.length;rw[<-T]at hn⊢;have H:=jq h;have G:=jq T;clear h T
 go_enter func147,ntmps147
 go_wp2_with fail
 go_loopw[3,8] (λx i wr=>∃k:Nat,k<=n/\i=.int .i64 (k:Int)/\wr=w/\x=.int .u32 ((jK 4294967295 (bs.take k):Nat):Int)) (λ_ i _=>n-(intOf i).toNat)
 case atStart=>exact⟨0,aC _,rfl,rfl,rfl⟩
 case round=>
  obtain⟨k,hk,rfl,rfl,D⟩:=hrel;obtain⟨f,P⟩:=jl (jK 4294967295 (bs.take k));have E:f<2^32:=by rw[P];exact wI _ (by decide)
  rw[<-P]at D;subst D;have J:=jq P;clear P
  by_cases R:k<n
  ·have h7:decide ((k:Int) <(n:Int))=true:=jd (by omega);obtain⟨c,hc⟩:∃c,bs[k]? =some c:=⟨bs[k]'(by rw[<-G.out];exact R),jg _⟩;obtain⟨g,o,rfl,c0⟩:=iB H.out (k:=k) (u:=bv c) (by rw[List.getElem?_map,hc];rfl)
   have h2:jK 4294967295 (bs.take (k+1))=steps 8 (f ^^^ c.toNat):=by
    rw[bF,hc];unfold jK;rw[kG,J.out];exact Pb _ c
   have A:=jq h2;obtain⟨t,L⟩:=jl c.toNat;have x0:t<256:=by rw[L];exact c.toNat_lt
   have Y:bv c=.int .u8 (t:Int):=by rw[L];rfl
   rw[Y]at c0;rw[<-L]at A;have h8:bits .xor .u32 (f:Int) (t:Int)=((f ^^^ t:Nat):Int):=u32_xor_nat _ _ E (by omega);obtain⟨y,U⟩:=jl (f ^^^ t);have h3:y<2^32:=by rw[U];exact rV E (by omega)
   rw[<-U]at h8 A;have x1:IntKind.u32.wrap (t:Int)=(t:Int):=by show(t:Int)%4294967296=_;omega
   have h4:=jq h3;clear hc h2 L Y U h3
   go_wp2_with fail
   go_loopw[3,5] (λx i wq=>∃j:Nat,j<=8/\i=.int .i64 (j:Int)/\wq=wr/\x=.int .u32 ((steps j y:Nat):Int)) (λ_ i _=>8-(intOf i).toNat)
   case atStart=>exact⟨0,aC _,rfl,rfl,rfl⟩
   case round=>
    obtain⟨j,hj,rfl,rfl,D⟩:=hrel;obtain⟨z,v⟩:=jl (steps j y);have h9:z<2^32:=by rw[v];exact wJ h4.out j
    have O:steps (j+1) y=iF z:=by rw[v];rfl
    obtain⟨N,M⟩:=O8 z h9;rw[<-v]at D;subst D
    by_cases Z:j<8
    ·have h6:decide ((j:Int) <8)=true:=jd (by omega);have I:=jq O;rcases ve z with S|S
     ·have h0:=M S;have hq: ((z:Int)%2==1)=false:=by rw[beq_eq_false_iff_ne];omega
      clear N M O v
      go_wp2_with fail
      exact⟨⟨j+1,Z,rfl,by first|rfl|trivial,by rw[I.out]⟩,by simp[intOf];clear I A J H G;omega⟩
     ·have h1:=N S;have hq: ((z:Int)%2==1)=true:=by rw[beq_iff_eq];omega
      clear N M O v
      go_wp2_with fail
      exact⟨⟨j+1,Z,rfl,by first|rfl|trivial,by rw[I.out]⟩,by simp[intOf];clear I A J H G;omega⟩
    ·have h5:j=8:=by omega
     subst h5;have h6:decide (((8:Nat):Int) <8)=false:=by decide
     have HZ:=jq v;clear N M O v
     go_wp2_with fail
     exact⟨⟨k+1,R,rfl,by first|rfl|trivial,by rw[A.out,HZ.out]⟩,by simp[intOf];exact Nat.sub_lt_sub_left R (Nat.lt_succ_self k)⟩
  ·obtain rfl:n=k:=by omega
   have h7:decide ((n:Int) <(n:Int))=false:=jf (by omega)
   have x2:bits .xor .u32 (f:Int) 4294967295=((4294967295-f:Nat):Int):=by
    have V:=u32_xor_nat f 4294967295 E (by decide);have e2:=u32_xor_nat 4294967295 f (by decide) E;have X:=EN f E;rw[show(IntKind.u32.max:Int)=((4294967295:Nat):Int)from rfl,e2]at X;rw[Nat.xor_comm]at V;exact V.trans X
   go_wp2_with fail
   go_ret
   rw[J.out,G.out,lC];exact⟨rfl,rfl⟩
end kY
namespace kY
open Go.RowKit Go.Deep Mem Crc Full aA
theorem EO(n:Nat)(h:n<2^32)(w:World):Calls prog 102 #[.int .u32 (n:Int)] w λe w'=>∃v,e=.returned v/\ak w' w.heap.size v (four n)/\Below w.heap.size w w':=by
 go_enter func102,ntmps102
 go_wp2_with fail
 go_ret
 refine⟨_,rfl,?_,(Below.refl _ w).alloc jn _⟩
 have e:#[Value.int .u8 ((n:Int)%256),Value.int .u8 ((n:Int)/256%256),Value.int .u8 ((n:Int)/65536%256),Value.int .u8 ((n:Int)/16777216)]=((four n).map bv).toArray:=by
  unfold four bv;simp only[List.map_cons,List.map_nil,UInt8.toNat_ofNat'];have a: ((n%2^8:Nat):Int)=(n:Int)%256:=by omega
  have c: ((n/256%2^8:Nat):Int)=(n:Int)/256%256:=by omega
  have f: ((n/65536%2^8:Nat):Int)=(n:Int)/65536%256:=by omega
  have i: ((n/16777216%2^8:Nat):Int)=(n:Int)/16777216:=by omega
  rw[a,c,f,i]
 rw[e];have h:=World.ownsRow_lit (e:=5) (size:=1) (base:=w.heap.size) w ((four n).map bv).toArray 4 jn (by decide) (by simp[four]);unfold ak;rw[show(four n).length=4 from rfl];exact h
attribute [local go_sem] Oper.semAt_some
theorem wK(a:Option Addr)(cp:Nat)(bs:List UInt8)(w:World)(h:Lies w a (bs.map bv))(hn:bs.length<=3000000):
  Calls prog 103 #[.slice a bs.length cp] w λe w'=>∃v,e=.returned v/\ak w' w.heap.size v (marked bs)/\Below w.heap.size w w':=by
 obtain⟨W1,k⟩:=jl (w.alloc (.cells #[] 5));obtain⟨ob,S⟩:=jl w.heap.size;have c:Below w.heap.size w W1:=by rw[k];exact(Below.refl _ w).alloc jn _
 have D:ak W1 w.heap.size (.slice (some ⟨ob,0,none⟩) 0 0) []:=by rw[k,S];exact fT w 5 1
 obtain⟨v2,w2,o,i,O⟩:=lQ W1 84 _ _ D a cp bs (h.later c) (by simp;omega) c.size;rw[List.nil_append]at i;have t:Below w.heap.size w w2:=c.grown O c.size (λq hq=>(D.lt q hq).1);obtain⟨h3,h4,rfl,-⟩:=own_shape i;have j:=O9 a cp bs w2 (h.later t) (by omega);have T:ko bs<2^32:=by unfold ko;omega
 have hF:=EO (ko bs) T w2;obtain⟨n,A⟩:=jl bs.length;obtain⟨U,G⟩:=jl (ko bs);rw[<-A]at o j hn⊢;rw[<-G]at j hF;have J:=jq A;have h0:=jq G;have HS:=jq j;have X:=jq hF;have Y:=jq i;have I:=jq t;rw[k]at o;clear h A G j hF i t D c O k T;rw[S]at o
 go_enter func103,ntmps103
 go_wp2_with (first|(at_builtin;refine Lib.wpList_append_run _ rfl _ _ _ _ rfl _ _ rfl rfl _ _ o ?_))
 refine HS.out.mono ?_;rintro e w3 ⟨rfl,rfl⟩
 go_wp2_with fail
 refine X.out.mono ?_;rintro e w4 ⟨v4,rfl,N,x⟩;obtain⟨h1,h2,rfl,_,M,-⟩:=own_shape N;have y:=own_later Y.out x;have f:Below w.heap.size w w4:=I.out.trans (x.mono I.out.size);obtain⟨v5,w5,E,z,P⟩:=lQ w4 84 _ _ y h1 h2 (four U) M (by rw[<-J.out];simp[four];omega) f.size;have L:Below w.heap.size w w5:=f.grown P f.size (λq hq=>(y.lt q hq).1);rw[h0.out]at z;rw[<-J.out]at E;have Z:=jq z;have V:=jq L;obtain⟨l4,R⟩:=jl ((four U).length);rw[<-R]at E⊢;clear N x M y f P z L R
 go_wp2_with (first|(at_builtin;refine Lib.wpList_append_run _ rfl _ _ _ _ rfl _ _ rfl rfl _ _ E ?_))
 go_ret
 exact⟨_,rfl,Z.out,V.out⟩
end kY
namespace Full
open Go.RowKit Go.Deep Mem Crc
open Store (nv)
theorem tV(w:World)(t:TypeId)(a:Array Value)(f:Nat×Nat):Lies (w.alloc (.cells a t f)) (some ⟨w.heap.size,0,none⟩) a.toList:=.inr ⟨w.heap.size,0,rfl,by simp,λi u c=>by
 rw[Nat.zero_add,cell_of_row _ w.heap.size i a t f (heap_alloc_new w _)]
 simpa using c⟩
theorem tX{va:Option Addr}{vc:Nat}{b:List UInt8}{w:World}(a:Lies w va (b.map bv)): (convert 84 9 (.slice va b.length vc)).run prog w=.ok (nv b) w:=by
 cases va with
 |none=>
  have c:b= []:=by
   rcases a with h|⟨g,o,h,_⟩
   ·exact dM.1 h
   ·cases h
  subst c;show(convert 84 9 (.slice none 0 vc)).run prog w=.ok (.string ⟨#[]⟩) w
  kernel_rfl
 |some f=>exact run_convert_bytes_back w 84 9 5 _ vc _ underlying84 underlying5 underlying9 (λj e=>dQ a j _ (by simp[e,bv]))
end Full
namespace bQ
open Go.RowKit Go.Deep Mem Crc Varint aA
theorem zW(nm:List UInt8)(s:ByteArray)(a:sv nm=.string s)(w:World):∃V cap,(convert 9 84 (.string s)).run prog w=.ok (.slice (some ⟨w.heap.size,0,none⟩) s.size cap) V/\Lies V (some ⟨w.heap.size,0,none⟩) (nm.map bv)/\Below w.heap.size w V/\s.size<=cap:=by
 refine⟨_,_,run_bytes_of_string w 9 84 5 s underlying9 underlying84 underlying5,?_,(Below.refl _ w).drew.alloc jn _,grownCap_ge w s.size 0 5⟩;unfold Mem.sv at a;injection a with a;subst a;have hl:=Full.tV w.drew 5 (bytesRow ⟨nm.toArray⟩ (grownCap w (ByteArray.size ⟨nm.toArray⟩) 0 5)) ((bytesRow ⟨nm.toArray⟩ (grownCap w (ByteArray.size ⟨nm.toArray⟩) 0 5)).size,(bytesRow ⟨nm.toArray⟩ (grownCap w (ByteArray.size ⟨nm.toArray⟩) 0 5)).size+1);refine .inr ⟨w.heap.size,0,rfl,by show w.heap.size<(w.heap.push _).size;simp,λj u c=>?_⟩
 obtain⟨g,o,e,hc⟩:=iB hl (k:=j) (u:=u) (by
  have i:=(jS.1 c).1;unfold bytesRow;rw[Array.toList_append,iK (by simpa using i),<-c,Array.toList_map]
  rfl)
 injection e with e;injection e with f h;subst h;rw[show g=w.heap.size from f.symm]at hc;exact hc
theorem Pf(nm:List UInt8)(s:ByteArray)(f:sv nm=.string s)(w:World):∃V cap,(convert 9 84 (.string s)).run prog w=.ok (.slice (some ⟨w.heap.size,0,none⟩) s.size cap) V/\Lies V (some ⟨w.heap.size,0,none⟩) (nm.map bv)/\Below w.heap.size w V:=by
 obtain⟨V,cap,a,c,e,_⟩:=zW nm s f w;exact⟨V,cap,a,c,e⟩
end bQ
namespace Runs
open Go.RowKit Go.Deep Go.Shelf Mem Crc Go.Maps Merge
attribute [local go_sem] Oper.semAt_some
variable {b:B}
theorem sD{c:B}{e f:ByteArray}(hb:.string e=strB b)(hc:.string f=strB c): (Op.bytesLess e.toList f.toList||e.toList==f.toList)=decide (b<=c):=by
 unfold strB at hb hc;injection hb with hb;injection hc with hc;subst hb hc;rw[Lib.toList_data,Lib.toList_data,bytesLess_eq];show(decide (b<c)||b==c)=decide (b<=c)
 by_cases h:b=c
 ·subst h
  simp
 ·have j: (b==c)=false:=by simpa using h
  rw[j,Bool.or_false];refine decide_eq_decide.2 ⟨λh=>List.le_of_lt h,λi=>?_⟩;rcases oJ.1 i with a|a
  ·exact a
  ·exact absurd a h
theorem yG(t:TypeId)(a b:ByteArray):binOp .leq t (.string a) (.string b)=pure (.bool (Op.bytesLess a.toList b.toList||a.toList==b.toList)):=by simp[binOp,Op.stringOp]
attribute [local go_sem] yG
theorem Pg(cp m g a b:Nat):Value.slice (if cp=m then some ⟨g,0,none⟩else some ⟨g,m,none⟩) a b=.slice (some ⟨g,if cp=m then 0 else m,none⟩) a b:=by split <;> rfl
theorem Ph{cp m:Nat}(g a b:Nat)(h:cp≠m):Value.slice (some ⟨g,m,none⟩) a b=.slice (some ⟨g,if cp=m then 0 else m,none⟩) a b:=by rw[if_neg h]
def nW(out:List B)(n:Nat)(b:B):List B:=out.take n++ [b]++out.drop n
theorem Pj(out:List B)(n:Nat)(b:B): (nW out n b).Perm (out++ [b]):=by
 unfold nW
 have h: (out.take n++ [b]++out.drop n).Perm (out.take n++out.drop n++ [b]):=by
  rw[List.append_assoc,List.append_assoc];exact List.Perm.append_left _ List.perm_append_comm
 rwa [iq]at h
theorem Pk{out:List B}{n:Nat}(h:aS out)(f:∀x∈out.take n,x<=b)(i:∀x,out[n]? =some x->¬x<=b):aS (nW out n b):=by
 unfold nW;have k:aS (out.take n++out.drop n):=by rw[iq];exact h
 obtain⟨o,hd,t⟩:=gM.1 k
 have j:∀y∈out.drop n,b<=y:=λy a=>by
  cases hq:out.drop n with
  |nil=>rw[hq]at a;cases a
  |cons x r=>
   have c:out[n]? =some x:=by
    have:=congrArg (·[0]?) hq
    simpa[List.getElem?_drop]using this
   have e:b<=x:=(List.le_total x b).resolve_left (i x c);rw[hq]at a hd;rcases List.mem_cons.1 a with rfl|a
   ·exact e
   ·exact mE e ((eF.1 hd).1 y a)
 refine gM.2 ⟨gM.2 ⟨o,List.pairwise_singleton _ _,λx c y a=>by rw[jE.1 a];exact f x c⟩,hd,λx c y a=>?_⟩;rcases List.mem_append.1 c with c|c
 ·exact t x c y a
 ·rw[jE.1 c];exact j y a
theorem wL(w:World)(a:Option Addr)(c:Nat)(l:List B)(hL:Lies w a (l.map strB))(hn:l.length<=1000000):
  Calls prog 28 #[.slice a l.length c] w λe w'=>∃v,e=.returned v/\w'.ownsRow w.heap.size 9 1 v l.length ((sortB l).map strB)/\Below w.heap.size w w':=by
 obtain⟨i0,U,X,Y,Z⟩:=info_parts EP;obtain⟨n,h7⟩:=jl l.length;rw[<-h7]at hn⊢;have HL:=jq hL;have x5:=jq h7;clear hL h7
 go_enter func28,ntmps28
 go_wp2_with fail
 go_loopw[3,10] (λo i wr=>∃(k g cp:Nat) (out:List B),k<=n/\i=.int .i64 k/\o=.slice (some ⟨g,0,none⟩) k cp/\k<=cp/\w.heap.size<=g/\wr.ownsRow w.heap.size 9 1 o k (out.map strB)/\out.Perm (l.take k)/\aS out/\Below w.heap.size w wr) (λ_ i _=>n-(intOf i).toNat)
 case atStart=>exact⟨0,w.heap.size,0,[],aC _,rfl,rfl,aj _,aj _,fT w 9 1,oN _,List.Pairwise.nil,(Below.refl _ w).alloc jn _⟩
 case round=>
  obtain⟨k,g,cp,out,hk,rfl,rfl,c9,hg,J,x1,x2,R⟩:=hrel
  by_cases hlt:k<n
  ·have y8:out.length=k:=by have:=J.1;simpa using this
   obtain⟨b,hb⟩:∃b,l[k]? =some b:=⟨l[k]'(by rw[<-x5.out];exact hlt),jg _⟩;obtain⟨A,x3⟩:∃A:ByteArray,.string A=strB b:=⟨_,rfl⟩;have z2:l.take (k+1)=l.take k++ [b]:=by rw[bF,hb];rfl
   obtain⟨lg,lo,rfl,P⟩:=iB (HL.out.later R) (k:=k) (u:=.string A) (by simp[hb,x3])
   have N:=jq (show Lies wr (some ⟨g,0,none⟩) (out.map strB)from by
    obtain⟨_,_,e,_,h,_,_⟩:=own_shape J;cases e;exact h)
   have E:=jq y8;have h4:=jq x3;have a8:=jq z2;have c0:=jq J;have a5:=jq x1;have a6:=jq x2;have HB:=jq R;have h1:=jq P;have hw:RowKit.wrap64 ((k:Int)+1)=(k:Int)+1:=IntWalk.wrap64_in _ (by omega);clear y8 hb x3 z2 J x1 x2 R P
   go_wp2_with fail
   go_loopw[5] (λt5 b9=>∃m q:Nat,m<=k/\t5=.int .i64 m/\b9=wr.drewN q/\∀x∈out.take m,x<=b) (λi _=>k-(intOf i).toNat)
   case atStart=>exact⟨0,0,aC _,rfl,rfl,λx f=>by simp at f⟩
   case round=>
    obtain⟨m,q,hm,rfl,rfl,y9⟩:=hrel;have x9:=jq y9;clear y9;have P: (wr.drewN q).cell? ⟨lg,lo+k,none⟩=some (.string A):=h1.out;obtain⟨W,hW⟩:=jl (wr.drewN q);rw[<-hW]at P⊢;have O:=jq hW;clear hW
    have T: (m<k/\∃x,out[m]? =some x/\x<=b)\/((m<k/\∃x,out[m]? =some x/\¬x<=b)\/m=k):=by
     by_cases h:m<k
     ·have f:out[m]? =some (out[m]'(by rw[E.out];exact h)):=jg _
      by_cases h2:out[m]'(by rw[E.out];exact h)<=b
      ·exact .inl ⟨h,_,f,h2⟩
      ·exact .inr (.inl ⟨h,_,f,h2⟩)
     ·exact .inr (.inr (by omega))
    rcases T with⟨h8,x,f,I⟩|T
    ·obtain⟨t,D⟩:∃t:ByteArray,.string t=strB x:=⟨_,rfl⟩
     have c1:W.cell? ⟨g,m,none⟩=some (.string t):=by
      rw[O.out];obtain⟨_,_,e,h⟩:=iB (N.out.drewN q) (k:=m) (u:=.string t) (by simp[f,D]);cases e;rw[Nat.zero_add]at h;exact h
     have b3: (Op.bytesLess t.toList A.toList||t.toList==A.toList)=true:=by rw[sD D h4.out];simpa using I
     have z3:out.take (m+1)=out.take m++ [x]:=by rw[bF,f];rfl
     have a9:=jq z3;have b0:=jq I;have d1:RowKit.wrap64 ((m:Int)+1)=(m:Int)+1:=IntWalk.wrap64_in _ (by omega);clear f D z3 I
     go_wp2
     go_quiet (fail)
     go_wp2
     go_roundw
     case rel=>
      refine⟨m+1,q+nq,by omega,by simp,by rw[O.out];simp[World.drewN,Nat.add_assoc],?_⟩;rw[a9.out];intro z M;rcases List.mem_append.1 M with M|M
      ·exact x9.out z M
      ·rw[jE.1 M];exact b0.out
     case measure=>simp[intOf];omega
    ·have z0:∀x,out[m]? =some x->¬x<=b:=λx f=>by
      rcases T with⟨_,y,hy,b6⟩|rfl
      ·rw[f]at hy;cases hy;exact b6
      ·rw[vg (by rw[E.out];exact aj _)]at f;cases f
     have a7:=jq z0;clear z0;rcases T with⟨h8,x,f,I⟩|h8
     case' inl=>
      obtain⟨t,D⟩:∃t:ByteArray,.string t=strB x:=⟨_,rfl⟩
      have c1:W.cell? ⟨g,m,none⟩=some (.string t):=by
       rw[O.out];obtain⟨_,_,e,h⟩:=iB (N.out.drewN q) (k:=m) (u:=.string t) (by simp[f,D]);cases e;rw[Nat.zero_add]at h;exact h
      have b3: (Op.bytesLess t.toList A.toList||t.toList==A.toList)=false:=by rw[sD D h4.out];simpa using I
      clear f D I
      go_wp2
      go_quiet (fail)
     case' inr=>
      replace h8:¬m<k:=by omega
      go_wp2
      go_quiet (fail)
     all_goals(
      obtain⟨W2,h6⟩:=jl (W.drewN nq);rw[<-h6];have e2:W2=wr.drewN (q+nq):=by rw[h6,O.out];simp[World.drewN,Nat.add_assoc]
      have z1:W2.heap.size=wr.heap.size:=by rw[e2];rfl
      have G:Below wr.heap.size wr W2:=by rw[e2];exact⟨rfl,rfl,rfl,aj _,λ_ _=>rfl⟩
      have h5:Below wr.heap.size wr (W2.alloc (.cells #[] 9)):=G.alloc G.size _;have x7:=jq (show(W2.alloc (.cells #[] 9)).ownsRow wr.heap.size 9 1 (.slice (some ⟨W2.heap.size,0,none⟩) 0 0) 0 []from bH (fT W2 9 1) (by omega));have z9:=jq (show((out.take m).map strB).length=m*1 from by have:=E.out;simp;omega);have z8:=jq (show∀j u,((out.take m).map strB)[j]? =some u->(W2.alloc (.cells #[] 9)).cell? ((⟨g,0,none⟩:Addr).add j)=some u from dQ (by rw[fA];exact(N.out.later h5).take m))
      have H1:=jq (show∀u∈(out.take m).map strB,u.oneCell'=true from λu L=>by
       obtain⟨x,_,rfl⟩:=List.mem_map.1 L
       rfl)
      have z5:=jq h5;have y0:=jq z1;clear h6 e2 G h5 z1
      go_wp2_with (first|(at_builtin;refine wpList_append_own _ rfl _ _ 33 rfl wr.heap.size 9 i0 (.string .empty) 1 16 underlying33 U X Y Z rfl (by decide) _ _ _ rfl x7.out ⟨g,0,none⟩ m cp ((out.take m).map strB) rfl z9.out z8.out H1.out ?c3 ?c4 ?c5 ?_))
      case c3=>unfold maxLen;omega
      case c4=>omega
      case c5=>rw[World.size_alloc,y0.out];omega
      intro v1 w1 h9 y2 b4;have S:Below wr.heap.size wr w1:=z5.out.grown y2 (by rw[World.size_alloc,y0.out];omega) (λq hq=>(x7.out.lt q hq).1);obtain⟨a1,c7,rfl,_,_,_,y6⟩:=own_shape h9;have a3:=jq y6;have c2:w1.cell? ⟨lg,lo+k,none⟩=some (.string A):=(S.cell (p:=⟨lg,lo+k,none⟩) (World.block_lt_of_cell? wr _ h1.out)).trans h1.out;have x8:=jq (h9.alloc (.cells #[.string A] 9));have b7:wr.heap.size<=w1.heap.size:=S.size;have z6:=jq S;clear h9 y2 b4 S y6
      go_wp2_with (first|(at_builtin;refine wpList_append_own _ rfl _ _ 33 rfl wr.heap.size 9 i0 (.string .empty) 1 16 underlying33 U X Y Z rfl (by decide) _ _ _ rfl x8.out ⟨w1.heap.size,0,none⟩ 1 1 [.string A] rfl rfl (one_at rfl) (by simp[Value.oneCell']) ?d3 ?d4 ?d5 ?_))
      case d3=>unfold maxLen;omega
      case d4=>omega
      case d5=>rw[World.size_alloc];omega
      intro v2 w2 x0 y3 z4;have G:Below wr.heap.size wr w2:=(z6.out.alloc b7 _).grown y3 (by rw[World.size_alloc];omega) (λq hq=>(x8.out.lt q (by first|exact hq|exact a3.out.trans hq)).1);obtain⟨a2,c8,rfl,_,_,_,y7⟩:=own_shape x0;have a4:=jq y7;have h3:=jq x0;have h0:=jq G;have c6:=jq z4;clear x0 y3 z4 G c2 y7
      have x4:=jq (show∀j u,((out.drop m).map strB)[j]? =some u->w2.cell? ((⟨g,if cp=m then 0 else m,none⟩:Addr).add j)=some u from by
       by_cases b1:cp=m
       ·rw[rQ (by rw[E.out];omega)];intro j u L
        simp at L
       ·rw[if_neg b1];refine dQ ?_;have:=(N.out.later h0.out).drop m;rw[<-jV]at this
        rwa [Nat.zero_add]at this)
      have x6:=jq (show((out.drop m).map strB).length=(k-m)*1 from by have:=E.out;simp;omega)
      have H3:=jq (show∀u∈(out.drop m).map strB,u.oneCell'=true from λu L=>by
       obtain⟨x,_,rfl⟩:=List.mem_map.1 L
       rfl)
      have b8:wr.heap.size<=w2.heap.size:=h0.out.size
      go_wp2_with (first|(at_builtin;refine wpList_append_own _ rfl _ _ 33 rfl wr.heap.size 9 i0 (.string .empty) 1 16 underlying33 U X Y Z rfl (by decide) _ _ _ rfl h3.out ⟨g,if cp=m then 0 else m,none⟩ (k-m) (cp-m) ((out.drop m).map strB) (Pg cp m g (k-m) (cp-m)) x6.out x4.out H3.out (by unfold maxLen;omega) (by omega) (by omega) ?_)|(at_builtin;refine wpList_append_own _ rfl _ _ 33 rfl wr.heap.size 9 i0 (.string .empty) 1 16 underlying33 U X Y Z rfl (by decide) _ _ _ rfl h3.out ⟨g,if cp=m then 0 else m,none⟩ (k-m) (cp-m) ((out.drop m).map strB) (Ph g (k-m) (cp-m) (show cp≠m by omega)) x6.out x4.out H3.out (by unfold maxLen;omega) (by omega) (by omega) ?_))
      all_goals(
       intro v3 w3 V y4 b5;have y1:Below wr.heap.size wr w3:=h0.out.grown y4 b8 (λq hq=>(h3.out.lt q (by first|exact hq|exact a4.out.trans hq)).1);have ek:m+1+(k-m)=k+1:=by omega
       rw[ek]at V;rcases V.2 with⟨_,e0⟩|⟨g3,zX,cur,e3,d0,y5⟩
       ·omega
       subst e3;have b2:k+1<=zX:=y5.2.1
       have a0:=jq (show w3.ownsRow wr.heap.size 9 1 (.slice (some ⟨g3,0,none⟩) (k+1) zX) (k+1) ((nW out m b).map strB)from by
        have e: (nW out m b).map strB=List.take m (out.map strB)++ [.string A]++List.drop m (out.map strB):=by
         unfold nW;rw[h4.out]
         simp
        rw[e]
        simpa using V)
       have z7:=jq y1;clear V y4 b5 y5 y1 cur
       go_wp2
       go_roundw
       case rel=>
        have hs:=HB.out.size;refine⟨k+1,g3,zX,nW out m b,by omega,by simp,rfl,b2,by omega,bH a0.out hs,?_,Pk a6.out x9.out a7.out,HB.out.trans (z7.out.mono hs)⟩;rw[a8.out];exact(Pj out m b).trans (List.Perm.append_right _ a5.out)
       case measure=>simp[intOf];omega))
  ·obtain rfl:k=n:=by omega
   go_wp2
   go_ret
   refine⟨_,rfl,?_,R⟩;have:=tY (l:=l) (x1.trans (by rw[x5.out,lC])) x2;rw[<-this];exact J
end Runs
namespace Runs
open Go.RowKit Go.Deep Mem Crc Merge
def eP(w:World)(base:Nat)(v:Value)(l:List B):Prop:=w.ownsRow base 9 1 v l.length (l.map strB)
theorem EQ{w:World}{xs:List Value}(h:Lies w none xs):xs= []:=h.elim id (fun⟨g,o,e,_⟩=>by cases e)
theorem tZ{base:Nat}(w:World)(D:TypeId)(v:Value)(l:List B)(h:eP w base v l)(a:Option Addr)(cp:Nat)(c:List B)(G:Lies w a (c.map strB))(O:l.length+c.length<=100000000)(hb:base<=w.heap.size):
  ∃a' c' w',(Builtin.append_ #[33,33] D #[v,.slice a c.length cp]).run prog w=.ok (.slice a' (l++c).length c') w'/\eP w' base (.slice a' (l++c).length c') (l++c)/\w.grownBy w' v.ownBlock:=by
 obtain⟨i,y,N,E,L⟩:=info_parts EP;have A:=underlying33
 have key:∃k w',(Builtin.append_ #[33,33] D #[v,.slice a c.length cp]).run prog w=.ok k w'/\eP w' base k (l++c)/\w.grownBy w' v.ownBlock:=by
  cases a with
  |some I=>
   obtain⟨k,w',z,t,o,_⟩:=run_append_own (P:=prog) w base 33 D 9 i (.string .empty) 1 16 A y N E L rfl (by decide) v l.length (l.map strB) h I c.length cp (c.map strB) (by simp) (λj u f=>by
    cases G with
    |inl e=>rw[e]at f;simp at f
    |inr e=>exact dQ (.inr e) j u f) (λu f=>by
     obtain⟨x,_,rfl⟩:=List.mem_map.1 f
     rfl) (by unfold maxLen;omega) (by omega) hb
   refine⟨k,w',z,?_,o⟩;unfold eP;rw[jL,aZ];exact t
  |none=>
   have J:c= []:=dM.1 (EQ G);subst J;refine⟨v,w,?_,by rw[List.append_nil];exact h,⟨rfl,rfl,rfl,aj _,λ_ _ _=>rfl⟩⟩;rcases h.2 with⟨rfl,e⟩|⟨g,cap,cur,rfl,_,o,M,_⟩
   ·simp[Builtin.append_,run_underlying A,sizeOf,typeInfo,y,Builtin.lenOf,Builtin.firstCells]
   ·simp[Builtin.append_,run_underlying A,sizeOf,typeInfo,y,E,Builtin.lenOf,Builtin.firstCells,M]
    rfl
 obtain⟨k,w',z,t,o⟩:=key;obtain⟨a',c',rfl,_,_,_,_⟩:=own_shape t;exact⟨a',c',w',z,t,o⟩
end Runs
namespace kY
open Go.RowKit Go.Deep Mem Crc Full aA
open Store (nv)
attribute [local go_sem] Oper.semAt_some bQ.EI
theorem ER(a:Option Addr)(cp:Nat)(bs:List UInt8)(w:World)(h:Lies w a (bs.map bv))(x8:bs.length<=cp)(hm:bs.length<=3000000):
  Calls prog 177 #[.slice a bs.length cp] w λe w'=>∃v,e=.returned (.tuple #[v,.int .i64 (fZ bs)])/\ak w' w.heap.size v (gQ bs)/\Below w.heap.size w w':=by
 by_cases t:bs.length<4
 ·have c:fZ bs=2:=if_pos t;have Z:gQ bs= []:=if_neg (by omega);rw[c,Z];clear h c Z
  go_enter func177,ntmps177
  go_wp2_with fail
  go_ret2
  exact⟨_,rfl,fT w 5 1,(Below.refl _ w).alloc jn _⟩
 ·obtain⟨g,off,rfl,hg,hc⟩:=h.resolve_left (λe=>by
   rw[dM]at e;subst e;exact t (by decide))
  have G:Lies w (some ⟨g,off,none⟩) (bs.map bv):=.inr ⟨g,off,rfl,hg,hc⟩;have h0:Lies w (some ⟨g,off,none⟩) ((aB bs).map bv):=by unfold aB;rw[fA];exact G.take _
  obtain⟨m,x0⟩:∃m,bs.length=m+4:=⟨bs.length-4,by omega⟩;have f: (aB bs).length=m:=by rw[uf];omega
  obtain⟨W1,y⟩:=jl (w.alloc (.cells #[] 5));have k:Below w.heap.size w W1:=by rw[y];exact(Below.refl _ w).alloc jn _
  have M:ak W1 w.heap.size (.slice (some ⟨w.heap.size,0,none⟩) 0 0) []:=by rw[y];exact fT w 5 1
  obtain⟨v2,w2,N,x,h8⟩:=lQ W1 84 _ _ M (some ⟨g,off,none⟩) cp (aB bs) (h0.later k) (by rw[f];simp;omega) k.size;rw[List.nil_append]at x;have D:Below w.heap.size w w2:=k.grown h8 k.size (λq hq=>(M.lt q hq).1);obtain⟨S,T,rfl,_,h9,-⟩:=own_shape x;have L:=wK S T (aB bs) w2 h9 (by rw[f];omega);rw[f,y]at N;rw[f]at L;have x5:=jq L;have X:=jq x;have i:=jq D;have HL:=jq (G.later D);have j:=jq f;have x4:=jq x0;have hw:IntKind.i64.wrap ((m:Int)+4-4)=m:=by rw[show(m:Int)+4-4=m by omega];exact IntWalk.i64_in _ (by omega)
  have y1:m<=cp:=by omega
  have c:fZ bs=if marked (aB bs)=bs then 0 else 5:=if_neg t
  have E1:=jq c;rw[x0];have y0:m+4<=3000000:=by omega
  clear hc hg G h0 f x D h8 M k h9 L c t y h x8 hm
  go_enter func177,ntmps177
  go_wp2_with (first|(at_builtin;refine Lib.wpList_append_run _ rfl _ _ _ _ rfl _ _ rfl rfl _ _ N ?_))
  obtain⟨sm,P⟩:∃s:ByteArray,nv (marked (aB bs))=.string s:=⟨_,rfl⟩;obtain⟨R,O⟩:∃s:ByteArray,nv bs=.string s:=⟨_,rfl⟩
  have J:∀V:World,Below w2.heap.size w2 V->(convert 84 9 (.slice (some ⟨g,off,none⟩) (m+4) cp)).run prog V=.ok (.string R) V:=λV I=>by
   have h:=tX (vc:=cp) (HL.out.later I);rw[O,x4.out]at h;exact h
  have h7: (sm.toList==R.toList)=(marked (aB bs)==bs):=bQ.tQ P O;obtain⟨q,hq⟩:∃q:Bool,(sm.toList==R.toList)=q:=⟨_,rfl⟩;have k0:=J w2.drew (Below.refl _ w2).drew;have x3:=jq J;have x7:=jq P;have x2:=jq h7;have HQ:=jq hq;have x1: (marked (aB bs)).length=m+4:=by rw[gG,j.out]
  have U:=jq x1
  have x6:Hid (∀V:World,V=w2.drew->Calls prog 103 #[.slice S m T] V λe w'=>∃v,e=.returned v/\ak w' w2.heap.size v (marked (aB bs))/\Below w2.heap.size w2 w'):=jq (λV I=>by
   subst I
   have h:=wK S T (aB bs) w2.drew (by
    obtain⟨_,_,e,_,hl,-⟩:=own_shape X.out;injection e with c _ _;subst c;exact hl.later (Below.refl _ w2).drew) (by rw[j.out];omega)
   rw[j.out]at h
   exact h.mono (λe w' hh=>by
    obtain⟨v,h1,h2,h3⟩:=hh;exact⟨v,h1,h2,(Below.refl _ w2).drew.trans h3⟩))
  clear J P O h7 x1 x5 N
  go_region_law ((first|(go_simp;go_at_call 103;refine(x6.out _ rfl).mono ?_;rintro e w4 ⟨v4,rfl,h6,E⟩;obtain⟨y2,x9,rfl,_,h5,-⟩:=own_shape h6;have k1:=x3.out w4 E;have k2:=tX (vc:=x9) h5;rw[x7.out,U.out]at k2;rw[U.out];have o:=jq E;clear h6 E h5;dsimp only)))
  all_goals cases q
  all_goals have z:Hid (fZ bs=if(marked (aB bs)==bs)=true then 0 else 5):=jq (by rw[E1.out];simp)
  all_goals have A:Hid (gQ bs=if(marked (aB bs)==bs)=true then aB bs else []):=jq (by unfold gQ;simp[show 4<=bs.length by omega])
  all_goals rw[<-x2.out,HQ.out]at z A
  all_goals have Y:=jq (ax i.out.size o.out.size)
  all_goals go_wp2_with fail
  all_goals go_ret2
  all_goals first
   |exact⟨_,by rw[z.out];rfl,by rw[A.out];exact bH (fT w4 5 1) Y.out,(i.out.trans (o.out.mono i.out.size)).alloc Y.out _⟩
   |exact⟨_,by rw[z.out];rfl,by rw[show gQ bs=aB bs from A.out.trans (by simp)];have hO:=own_later X.out o.out;rw[j.out]at hO;unfold ak;rw[j.out];exact hO,i.out.trans (o.out.mono i.out.size)⟩
end kY
namespace kY
open Go.RowKit Go.Deep Mem Crc Full aA Go.Proofs.YtndkohocgfmamaaGreatDoor.Frame
attribute [local go_sem] Oper.semAt_some
theorem Pm(a:Option Addr)(cp:Nat)(bs:List UInt8)(w:World)(h:Lies w a (bs.map bv))(d3:bs.length<=cp)(hm:bs.length<=3000000):
  Calls prog 156 #[.slice a bs.length cp] w λe w'=>Got bs w e w':=by
 by_cases J:bs.length<9
 ·have f:got bs=(0,[],0,2):=if_pos J;have c:=jq f;clear h d3 f
  go_enter func156,ntmps156
  go_wp2_with fail
  refine bodyPost_ret (v:=.tuple #[.agg #[.int .u8 0,.slice none 0 0],.int .i64 0,.int .i64 2]) (by simp[results,results156,go_sem]) rfl ⟨⟨.slice none 0 0,by rw[c.out];rfl,by rw[c.out];exact World.ownsRow_nil _ _ _ _⟩,((Below.refl _ w).alloc jn _).alloc (by simp) _⟩
 ·obtain⟨g,off,rfl,hg,hc⟩:=h.resolve_left (λe=>by
   rw[dM]at e;subst e;exact J (by decide))
  have hL:Lies w (some ⟨g,off,none⟩) (bs.map bv):=.inr ⟨g,off,rfl,hg,hc⟩;obtain⟨h,hh⟩:=jl (bs.take 9);have d5:h.length=9:=by rw[hh,jT];omega
  obtain⟨W1,U⟩:=jl ((w.alloc (.cells #[.int .u8 0,.slice none 0 0] 136)).alloc (.cells #[.int .u8 0,.slice none 0 0] 136));obtain⟨rb,x6⟩:=jl w.heap.size;obtain⟨P,x3⟩:=jl (w.heap.size+1);have h5:Below w.heap.size w W1:=by rw[U];exact((Below.refl _ w).alloc jn _).alloc (by simp) _
  have a5:Blk W1 rb 136 #[.int .u8 0,.slice none 0 0]:=by
   rw[U,x6];exact(Blk.new w _ _).below ((Below.refl _ _).alloc jn _) (by simp)
  have z8:Blk W1 P 136 #[.int .u8 0,.slice none 0 0]:=by
   rw[U,x3];have h:=Blk.new (w.alloc (.cells #[.int .u8 0,.slice none 0 0] 136)) 136 #[.int .u8 0,.slice none 0 0]
   simpa using h
  have z4:Lies W1 (some ⟨g,off,none⟩) (h.map bv):=by
   rw[hh,fA];exact(hL.later h5).take _
  have h7:=ER (some ⟨g,off,none⟩) cp h _ z4 (by omega) (by omega);rw[d5]at h7;have HF:=jq h7;have e3: (9:Nat)<=cp:=by omega
  have e5:decide ((bs.length:Int) <9)=false:=by simp;omega
  have HL:=jq hL;have x7:=jq h5;have y6:=jq a5;have y3:=jq z8;have i:=jq hh;have c8:Hid (w.heap.size<=rb):=jq (by omega);have b9:Hid (P≠rb):=jq (by omega);clear hc hg hL z4 h7 h5 a5 z8 hh
  go_enter func156,ntmps156
  go_wp2_with fail
  rw[<-U,<-x3,<-x6];clear U x6 x3;refine HF.out.mono ?_;rintro e w1 ⟨v1,rfl,a0,Z⟩;have M:=y6.out.below Z y6.out.lt;have h1:=y3.out.below Z y3.out.lt;have x0:=h1.cell 0;have x1:=h1.cell 1
  simp at x0 x1
  have r0:=M.cell 0;have r1:=M.cell 1
  simp at r0 r1
  have z0:=M.frozen 0;have z1:=M.frozen 1;have a6:w.heap.size<=rb:=c8.out;have y7:=jq M;have c3:=jq h1;have h3:=jq (x7.out.trans (Z.mono x7.out.size));have c6:=jq a0;have e8:P≠rb:=b9.out;have S:Hid (∀(w2:World) (x y:Value),Below w.heap.size w w2->Below w.heap.size w ((w2.setCell ⟨rb,0,none⟩ x).setCell ⟨rb,1,none⟩ y)):=jq (λw2 x y hb=>(hb.setCell a6 _).setCell a6 _);clear M h1 Z a0 HF;rcases wM (bs:=h) (by omega)with E|E
  ·have V:gQ h=aB h:=wN (by omega) E;have h6: (aB h).length=5:=by rw[uf];omega
   have h2:=c6.out;rw[V]at h2;obtain⟨g1,c1,e1,e6,e7,d4⟩:=mI h2 (by omega);obtain⟨a1,d8,z3,_,z6,_,_⟩:=own_shape h2;rw[e1]at z3;cases z3;rw[h6]at e1
   have hcell:∀j,j<5->w1.cell? ⟨g1,j,none⟩=some (.int .u8 (((aB h).getD j 0).toNat:Int)):=λj hj=>by
    obtain⟨q,o,e,_,hq⟩:=z6.resolve_left (by intro e;rw[dM]at e;rw[e]at h6;cases h6);cases e;have:=hq j _ (lI (jg (by omega)));rw[Nat.zero_add]at this;rw[this,List.getD_eq_getElem?_getD,jg (by omega)]
    rfl
   have b1:=hcell 1 (by omega);have b2:=hcell 2 (by omega);have b3:=hcell 3 (by omega);have b4:=hcell 4 (by omega);obtain⟨n1,m1⟩:=jl (((aB h).getD 1 0).toNat);obtain⟨n2,m2⟩:=jl (((aB h).getD 2 0).toNat);obtain⟨n3,m3⟩:=jl (((aB h).getD 3 0).toNat);obtain⟨n4,m4⟩:=jl (((aB h).getD 4 0).toNat);have l1:n1<256:=by rw[m1];exact nJ _
   have l2:n2<256:=by rw[m2];exact nJ _
   have l3:n3<256:=by rw[m3];exact nJ _
   have l4:n4<256:=by rw[m4];exact nJ _
   rw[<-m1]at b1;rw[<-m2]at b2;rw[<-m3]at b3;rw[<-m4]at b4;obtain⟨N,hN⟩:=jl (n1+n2*256+n3*65536+n4*16777216);have z9:num (aB h)=N:=by rw[hN,m1,m2,m3,m4];rfl
   have D:=jq z9;have e4:N<4294967296:=by omega
   have x9:=jq hcell;have Y:=jq E;have c4:=jq hN;rw[E];subst e1;clear h2 z6 hcell m1 m2 m3 m4 hN z9 E V
   go_wp2_with fail
   go_quiet (fail)
   have eN: (n1:Int)+256*(n2:Int)+65536*(n3:Int)+16777216*(n4:Int)=(N:Int):=by have:=c4.out;omega
   rw[eN];have a9: (w1.drewN nq).cell? ⟨P,0,none⟩=some (.int .u8 0):=x0;have b0: (w1.drewN nq).cell? ⟨P,1,none⟩=some (.slice none 0 0):=x1;have a7: (w1.drewN nq).cell? ⟨rb,0,none⟩=some (.int .u8 0):=r0;have a8: (w1.drewN nq).cell? ⟨rb,1,none⟩=some (.slice none 0 0):=r1;have b5: (w1.drewN nq).frozen? ⟨rb,0,none⟩=false:=z0;have b6: (w1.drewN nq).frozen? ⟨rb,1,none⟩=false:=z1;obtain⟨A,L⟩:=jl (w1.drewN nq);have z2:=jq L;have R:Hid (Below w.heap.size w A):=jq (by rw[L];exact below_drewN h3.out nq);have T:Hid (Blk A rb 136 #[.int .u8 0,.slice none 0 0]):=jq (by rw[L];exact y7.out.drewN nq);have y4:Hid (Blk A P 136 #[.int .u8 0,.slice none 0 0]):=jq (by rw[L];exact c3.out.drewN nq);rw[<-L]at a9 b0 a7 a8 b5 b6⊢;clear x0 x1 r0 r1 z0 z1 eN b1 b2 b3 b4 L l1 l2 l3 l4
   by_cases h0:1048576<N
   ·have f:got bs=(0,[],0,4):=by
     unfold got;rw[if_neg J,if_neg (by rw[<-i.out,Y.out];decide),if_pos (by rw[<-i.out,D.out];exact h0)]
    have c:=jq f;have q:=lV T.out (.int .u8 0) (.slice none 0 0);have k:=q.cell 0;have t:=q.cell 1
    simp at k t
    have z:=S.out A (.int .u8 0) (.slice none 0 0) R.out;clear f q;have d0:decide ((1048576:Int) <(N:Int))=true:=by simp;omega
    go_wp2_with fail
    refine bodyPost_ret (v:=.tuple #[.agg #[.int .u8 0,.slice none 0 0],.int .i64 0,.int .i64 4]) (by simp[results,results156,go_sem,k,t]) rfl ⟨⟨.slice none 0 0,by rw[c.out];rfl,by rw[c.out];exact World.ownsRow_nil _ _ _ _⟩,z⟩
   ·have d0:decide ((1048576:Int) <(N:Int))=false:=by simp;omega
    by_cases h4:bs.length<13+N
    ·have f:got bs=(0,[],0,2):=by
      unfold got;rw[if_neg J,if_neg (by rw[<-i.out,Y.out];decide),if_neg (by rw[<-i.out,D.out];exact h0),if_pos (by rw[<-i.out,D.out];exact h4)]
     have c:=jq f;have q:=lV T.out (.int .u8 0) (.slice none 0 0);have k:=q.cell 0;have t:=q.cell 1
     simp at k t
     have z:=S.out A (.int .u8 0) (.slice none 0 0) R.out;clear f q;have d1:decide ((bs.length:Int) <(N:Int)+13)=true:=by simp;omega
     go_wp2_with fail
     refine bodyPost_ret (v:=.tuple #[.agg #[.int .u8 0,.slice none 0 0],.int .i64 0,.int .i64 2]) (by simp[results,results156,go_sem,k,t]) rfl ⟨⟨.slice none 0 0,by rw[c.out];rfl,by rw[c.out];exact World.ownsRow_nil _ _ _ _⟩,z⟩
    ·have d1:decide ((bs.length:Int) <(N:Int)+13)=false:=by simp;omega
     obtain⟨o,ho⟩:=jl ((bs.drop 9).take (N+4));have x5:o.length=N+4:=by rw[ho,jT,List.length_drop];omega
     have z5:Lies A (some ⟨g,off+9,none⟩) (o.map bv):=by
      rw[ho,fA];refine Lies.take ?_ _;rw[jV,z2.out];exact((HL.out.later h3.out).drop 9).drewN nq
     have h8:=ER (some ⟨g,off+9,none⟩) (cp-9) o A z5 (by omega) (by omega);rw[x5]at h8;have y2:=jq h8;have HO:=jq ho;have y5:=jq x5;have d9:N+13<=cp:=by omega
     clear h8 z5 ho x5
     go_wp2_with fail
     refine y2.out.mono ?_;rintro e w2 ⟨v2,rfl,a3,z⟩;have O:=T.out.below z T.out.lt;have x4:=y4.out.below z y4.out.lt;have y0:=O.cell 0;have y1:=O.cell 1
     simp at y0 y1
     have u0:=O.frozen 0;have u1:=O.frozen 1;have n0:=x4.cell 0;have d7:=x4.cell 1
     simp at n0 d7
     have c0:w2.cell? ⟨g1,0,none⟩=some (.int .u8 (((aB h).getD 0 0).toNat:Int)):=by
      have hb:Below w1.heap.size w1 w2:=by
       have:=z;rw[z2.out]at this;exact(below_drewN (Below.refl w1.heap.size w1) nq).trans this
      exact hb.cell (p:=⟨g1,0,none⟩) d4 |>.trans (x9.out 0 (by omega))
     obtain⟨kd,x2⟩:=jl (((aB h).getD 0 0).toNat);rw[<-x2]at c0;have b8:=jq x2;have y8:=jq O;have x8:Hid (Below w.heap.size w w2):=jq (R.out.trans (z.mono R.out.size));have d6:A.heap.size<=w2.heap.size:=z.size;have y9:Hid (rb<A.heap.size/\w.heap.size<=A.heap.size):=jq ⟨T.out.lt,R.out.size⟩;have c7:=jq a3;clear O x4 z a3 a9 b0 a7 a8 b5 b6 x2 d6 x9 y2;rcases wM (bs:=o) (by rw[y5.out];omega)with G|G
     ·have f:got bs=((aB h).getD 0 0,aB o,13+N,0):=by
       unfold got;rw[if_neg J,if_neg (by rw[<-i.out,Y.out];decide),if_neg (by rw[<-i.out,D.out];exact h0),if_neg (by rw[<-i.out,D.out];exact h4),<-i.out,D.out,<-HO.out,if_neg (by rw[G];decide)]
       have e9: (aB h).getD 0 0=h.getD 0 0:=by
        unfold aB;rw[List.getD_eq_getElem?_getD,List.getD_eq_getElem?_getD,jh,if_pos (by omega)]
       rw[e9]
      have V:gQ o=aB o:=wN (by rw[y5.out];omega) G;have X:=c7.out;rw[V]at X;have c:=jq f;obtain⟨I,c2,e2,_,_,d2,_⟩:=own_shape X;subst e2;have q:=lV y8.out (.int .u8 (kd:Int)) (.slice I (aB o).length c2);have k:=q.cell 0;have t:=q.cell 1
      simp at k t
      have b7:=jq (S.out w2 (.int .u8 (kd:Int)) (.slice I (aB o).length c2) x8.out)
      have a4:ak ((w2.setCell ⟨rb,0,none⟩ (.int .u8 (kd:Int))).setCell ⟨rb,1,none⟩ (.slice I (aB o).length c2)) w.heap.size (.slice I (aB o).length c2) (aB o):=by
       have z7: (Value.slice I (aB o).length c2).ownBlock≠some rb:=λe=>by
        have:=(X.lt _ e).1;have:=y9.out.1
        omega
       exact bH (dU (dU X z7 _) z7 _) y9.out.2
      have c5:=jq a4;rw[G];clear f V X q G d2 a4
      go_wp2_with fail
      have e9: ((N:Int)+13)=((13+N:Nat):Int):=by omega
      refine bodyPost_ret (v:=.tuple #[.agg #[.int .u8 (kd:Int),.slice I (aB o).length c2],.int .i64 ((N:Int)+13),.int .i64 0]) (by simp[results,results156,go_sem,k,t]) rfl ⟨⟨.slice I (aB o).length c2,?_,by rw[c.out];exact c5.out⟩,b7.out⟩;rw[c.out,e9,b8.out]
      rfl
     ·have f:got bs=(0,[],0,5):=by
       unfold got;rw[if_neg J,if_neg (by rw[<-i.out,Y.out];decide),if_neg (by rw[<-i.out,D.out];exact h0),if_neg (by rw[<-i.out,D.out];exact h4),<-i.out,D.out,<-HO.out,if_pos G]
      have c:=jq f;have q:=lV y8.out (.int .u8 0) (.slice none 0 0);have k:=q.cell 0;have t:=q.cell 1
      simp at k t
      have c9:=S.out w2 (.int .u8 0) (.slice none 0 0) x8.out;rw[G];clear f q G
      go_wp2_with fail
      refine bodyPost_ret (v:=.tuple #[.agg #[.int .u8 0,.slice none 0 0],.int .i64 0,.int .i64 5]) (by simp[results,results156,go_sem,k,t]) rfl ⟨⟨.slice none 0 0,by rw[c.out];rfl,by rw[c.out];exact World.ownsRow_nil _ _ _ _⟩,c9⟩
  ·have f:got bs=(0,[],0,5):=by
    unfold got;rw[if_neg J,if_pos (by rw[<-i.out];exact E)]
   have c:=jq f;rw[E];have q:=lV y7.out (.int .u8 0) (.slice none 0 0);have k:=q.cell 0;have t:=q.cell 1
   simp at k t
   have z:=S.out w1 (.int .u8 0) (.slice none 0 0) h3.out;clear f q E
   go_wp2_with fail
   refine bodyPost_ret (v:=.tuple #[.agg #[.int .u8 0,.slice none 0 0],.int .i64 0,.int .i64 5]) (by simp[results,results156,go_sem,k,t]) rfl ⟨⟨.slice none 0 0,by rw[c.out];rfl,by rw[c.out];exact World.ownsRow_nil _ _ _ _⟩,z⟩
end kY
namespace Frame
open Go.RowKit Go.Deep Mem Crc
theorem Pn(a:Option Addr)(cp:Nat)(bs:List UInt8)(w:World)(h:Lies w a (bs.map bv))(z4:bs.length<=cp)(hm:bs.length<=3000000):
  Calls prog 120 #[.slice a bs.length cp] w λe w'=>ES bs w e w':=by
 obtain⟨i0,z6,a0,a1,a2⟩:=info_parts ET;have HL:=jq h;clear h
 go_enter func120,ntmps120
 go_wp2_with fail
 go_loopw[0,4] (λb o wr=>∃(a':Option Addr) (cp':Nat) (l:List bJ) (rest:List UInt8),b=.slice a' rest.length cp'/\rest.length<=cp'/\l.length+rest.length<=bs.length/\Hid (Lies w a' (rest.map bv))/\Hid (wr.ownsRow w.heap.size 136 2 o l.length (gu l))/\Hid (Bodies w.heap.size wr l)/\Hid (bA (bs.length+1) bs=glue (l.map bJ.kb) (bA (bs.length+1) rest))/\Hid (Below w.heap.size w wr)) (λb _ _=>lenOf b)
 case atStart=>exact⟨a,cp,[],bs,rfl,z4,by simp,HL,jq (fT w 136 2),jq (λs hs=>by simp at hs),jq (EU _ (EW _ _)).symm,jq ((Below.refl _ w).alloc jn _)⟩
 case round=>
  obtain⟨a',cp',l,rest,rfl,z3,z8,hL,hO,x5,O,t⟩:=hrel;have R:=t.out.size;obtain⟨n,f⟩:=jl rest.length;rw[<-f]at z3 z8⊢;have E:=jq f
  by_cases h0:0<n
  ·have I:rest≠[]:=λe=>by subst e;simp at f;omega
   have X:=kY.Pm a' cp' rest wr (hL.out.later t.out) (by omega) (by omega);rw[<-f]at X;have HG:=jq X;have M:=jq I;have a6:decide ((0:Int) <(n:Int))=true:=by simp;omega
   clear X I f
   go_wp2_with fail
   refine HG.out.mono ?_;rintro e w1 ⟨⟨v,rfl,h2⟩,x3⟩;obtain⟨va,vc,ev,z9,h3,y7,_⟩:=own_shape h2;subst ev;obtain⟨kd,Y⟩:=jl ((got rest).1);obtain⟨bd,y⟩:=jl ((got rest).2.1);obtain⟨m,Z⟩:=jl ((got rest).2.2.1);obtain⟨N,T⟩:=jl ((got rest).2.2.2);rw[<-y]at z9 h3;rw[<-Y,<-y,<-Z,<-T];unfold bv;have z2:=jq (show ak w1 wr.heap.size (.slice va bd.length vc) bd by rw[y];exact h2);have a4:=jq h3;have a3:=jq y7;have z0:=jq Y;have y9:=jq y;have L:=jq Z;have D:=jq T;have k:=jq x3;clear h2 h3 y7 Y y Z T x3
   by_cases c:N=0
   ·subst c;have U:=wO (bs:=rest) (by rw[<-D.out]);have a9:13<=m:=by rw[L.out];exact U.1
    have b1:m<=n:=by rw[L.out,E.out];exact U.2
    have x9:=(Below.refl w1.heap.size w1).alloc jn (.cells #[.int .u8 (kd.toNat:Int),.slice va bd.length vc] 136);have S:=x9.alloc (by simp) (.cells #[.int .u8 (kd.toNat:Int),.slice va bd.length vc] 136);have G:=own_later (own_later hO.out k.out) S;have a5:=k.out.size
    have y2:∀j u,([.int .u8 (kd.toNat:Int),.slice va bd.length vc]:List Value)[j]? =some u->((w1.alloc (.cells #[.int .u8 (kd.toNat:Int),.slice va bd.length vc] 136)).alloc (.cells #[.int .u8 (kd.toNat:Int),.slice va bd.length vc] 136)).cell? ((⟨w1.heap.size+1,0,none⟩:Addr).add j)=some u:=λj u J=>by
     have h9:=dQ (jG (w1.alloc (.cells #[.int .u8 (kd.toNat:Int),.slice va bd.length vc] 136)) 136 #[.int .u8 (kd.toNat:Int),.slice va bd.length vc]) j u J;rw[World.size_alloc]at h9;exact h9
    have h8:=jq y2;have z:=jq S;clear y2 x9 S
    go_wp2_with (first|(at_builtin;refine wpList_append_own _ rfl _ _ 196 rfl w.heap.size 136 i0 (.agg #[.int .u8 0,.slice none 0 0]) 2 32 underlying196 z6 a0 a1 a2 rfl (by decide) _ _ _ rfl G ⟨w1.heap.size+1,0,none⟩ 1 1 [.int .u8 (kd.toNat:Int),.slice va bd.length vc] rfl rfl h8.out ?c2 ?c3 ?c4 ?c5 ?_))
    case c2=>intro u J;simp at J;rcases J with rfl|rfl <;> rfl
    case c3=>unfold maxLen;omega
    case c4=>omega
    case c5=>simp;omega
    intro v' w2 y6 V _;have x4:Below w.heap.size w w2:=((t.out.trans (k.out.mono R)).trans (z.out.mono (by omega))).grown V (by simp;omega) (λq hq=>(G.lt q hq).1)
    have x6:Bodies w.heap.size w2 (l++ [⟨(got rest).1,bd,va,vc⟩]):=λx i=>by
     have h1:ak ((w1.alloc (.cells #[.int .u8 (kd.toNat:Int),.slice va bd.length vc] 136)).alloc (.cells #[.int .u8 (kd.toNat:Int),.slice va bd.length vc] 136)) w.heap.size (.slice x.a x.body.length x.cp) x.body:=by
      rcases List.mem_append.1 i with i|i
      ·exact own_later (own_later (x5.out x i) k.out) z.out
      ·obtain rfl:x=(⟨(got rest).1,bd,va,vc⟩:bJ):=by simpa using i
       exact bH (own_later z2.out z.out) R
     exact World.ownsRow.kept h1 V (vR h1 G (by decide))
    have x8:w2.ownsRow w.heap.size 136 2 v' (l++ [(⟨(got rest).1,bd,va,vc⟩:bJ)]).length (gu (l++ [(⟨(got rest).1,bd,va,vc⟩:bJ)])):=by
     rw[jL,EX,bJ.vs,<-z0.out];exact y6
    have x2:bA (bs.length+1) bs=glue ((l++ [(⟨(got rest).1,bd,va,vc⟩:bJ)]).map bJ.kb) (bA (bs.length+1) (rest.drop m)):=by
     have I:rest≠[]:=M.out;rw[O.out,EY (by have:=E.out;omega) I D.out.symm,aZ,<-L.out,<-y9.out]
     rfl
    have y3: (rest.drop m).length=n-m:=by rw[List.length_drop,<-E.out]
    obtain⟨ga,oa,ea,z5,y1⟩:=hL.out.resolve_left (λe=>M.out (by simpa using e))
    have x7:Lies w (some ⟨ga,oa+m,none⟩) ((rest.drop m).map bv):=by
     rw[jV];exact Lies.drop (.inr ⟨ga,oa,rfl,z5,y1⟩) m
    have z1:=jq x7;have h7:=jq x6;have x1:=jq x8;have h4:=jq x2;have h5:=jq x4;have A:=jq y3;subst ea;clear y6 V G x4 x6 x8 x2 y3 x7 y1 U z h8;have b0:m<=cp':=by omega
    by_cases z7:m=cp'
    ·subst z7;obtain rfl:n=m:=by omega
     have y5:rest.drop n= []:=iw (by rw[A.out];omega);have P:=h4.out;rw[y5]at P;have y8:=jq P;clear y5 P
     go_wp2_with fail
     go_roundw
     case rel=>exact⟨_,_,l++ [(⟨(got rest).1,bd,va,vc⟩:bJ)],[],by simp;exact⟨rfl,rfl⟩,aC _,by simp;omega,jq (.inl rfl),x1,h7,y8,h5⟩
     case measure=>simp[lenOf];omega
    ·have a8:m<cp':=by omega
     go_wp2_with fail
     go_roundw
     case rel=>exact⟨_,_,l++ [(⟨(got rest).1,bd,va,vc⟩:bJ)],rest.drop m,by rw[A.out],by rw[A.out];omega,by rw[A.out];simp;omega,z1,x1,h7,h4,h5⟩
     case measure=>simp[lenOf];omega
   ·have y0:bA (bs.length+1) bs=([],N):=by
     rw[O.out,EZ (by have:=E.out;omega) M.out (by rw[<-D.out];exact c),<-D.out];unfold glue;rw[if_neg c]
    have h6:=jq y0;have b2:=k.out.size;have a7: (N==0)=false:=by simpa using c
    clear y0
    go_wp2_with fail
    go_ret2
    have c:=fT (w1.alloc (.cells #[.int .u8 (kd.toNat:Int),.slice va bd.length vc] 136)) 136 2;rw[World.size_alloc]at c;exact⟨⟨_,[],by rw[h6.out];rfl,bH c (by omega),by rw[h6.out];rfl,λx i=>by simp at i⟩,(t.out.trans (k.out.mono R)).trans (((Below.refl w1.heap.size w1).alloc jn _).alloc (by simp) _ |>.mono (by omega))⟩
  ·obtain rfl:n=0:=by omega
   have hr:rest= []:=iw f.symm
   have y4:bA (bs.length+1) bs=(l.map bJ.kb,0):=by
    rw[O.out,hr,zY];unfold glue
    simp
   have x0:=jq y4;clear y4 hr f
   go_wp2_with fail
   go_ret2
   exact⟨⟨_,l,by rw[x0.out];rfl,hO.out,by rw[x0.out],x5.out⟩,t.out⟩
end Frame
namespace Runs
open Go.RowKit Go.Deep Go.Shelf Mem Crc Merge bQ
open Store (nv)
attribute [local go_sem] Oper.semAt_some EJ
theorem Po{w:World}{base g off c:Nat}{f:Frame.bJ}(h:w.ownsRow base 136 2 (.slice (some ⟨g,off,none⟩) 1 c) 1 (Frame.gu [f])):w.cell? ⟨g,off+1,none⟩=some (.slice f.a f.body.length f.cp):=by
 obtain⟨_,_,e,_,k,_,_⟩:=own_shape h;cases e;obtain⟨q,o,e,_,hc⟩:=k.resolve_left (λe=>by simp[Frame.gu,Frame.bJ.vs]at e);injection e with e;injection e with i j;subst i j;exact hc 1 _ (by simp[Frame.gu,Frame.bJ.vs])
def ug(o:Option (List B))(w:World)(e:Ending)(w':World):Prop:=
 Below w.heap.size w w'/\match o with
 |some l=>∃a c,e=.returned (.tuple #[.slice a l.length c,.bool true])/\eP w' w.heap.size (.slice a l.length c) l
 |none=>∃a c,e=.returned (.tuple #[.slice a 0 c,.bool false])
theorem Pp(wd:Nat)(i2:1<=wd)(i4:wd<=64)(bs:List UInt8)(w:World)(hm:bs.length<=1000000):
  Calls prog 74 #[nv bs,.int .i64 (wd:Int)] w (ug (readR wd bs) w):=by
 obtain⟨P,y7⟩:=jl (readR wd bs);rw[<-y7];obtain⟨N,t⟩:∃s:ByteArray,strB bs=.string s:=⟨_,rfl⟩
 have d7:N.size=bs.length:=by
  unfold strB at t;injection t with t;rw[<-t]
  simp[ByteArray.size]
 obtain⟨W1,h9⟩:=jl (w.alloc (.cells #[] 9));have y2:Below w.heap.size w W1:=by rw[h9];exact(Below.refl _ w).alloc jn _
 have c0:eP W1 w.heap.size (.slice (some ⟨w.heap.size,0,none⟩) 0 0) []:=by rw[h9];exact fT w 9 1
 obtain⟨V,cap,x2,b8,y3,h6⟩:=zW bs N t W1;rw[d7]at x2 h6;have hA:=Frame.Pn (some ⟨W1.heap.size,0,none⟩) cap bs V b8 h6 (by omega);obtain⟨nb,d3⟩:=jl bs.length;rw[<-d3]at x2 hA;have d8:W1.heap.size=w.heap.size+1:=by rw[h9];simp
 rw[d8]at hA x2;rw[show nv bs=.string N from t];have x9:=jq y7;have f0:=jq (own_later c0 y3);have a0:=jq (y2.trans (y3.mono y2.size));have HA:=jq hA;have e9:=jq hm;rw[h9]at x2;clear y7 t d7 y2 c0 b8 y3 hA d3 hm h6 h9 d8
 go_enter func74,ntmps74
 go_wp2_with fail
 refine HA.out.mono ?_;rintro e w3 ⟨⟨v3,z6,rfl,T,E,h5⟩,S⟩;obtain⟨i5,e0,rfl,i1,h4,f6,_⟩:=own_shape T;have h1:=a0.out.trans (S.mono a0.out.size);obtain⟨er,D⟩:=jl ((Frame.bA (bs.length+1) bs).2);obtain⟨ns,I⟩:=jl z6.length;rw[<-D,<-I];have a1:=jq h1;have a4:=jq (own_later f0.out S);have f:P=none->ug P w (.returned (.tuple #[.slice (some ⟨w.heap.size,0,none⟩) 0 0,.bool false])) w3:=λh=>⟨a1.out,by rw[h];exact⟨_,_,rfl⟩⟩
 by_cases he:er=0
 case neg=>
  have j:=jq (f (by rw[x9.out];exact Fa (by rw[<-D];exact he)));have t1: (er==0)=false:=by simpa using he
  have t2: (er !=0)=true:=by simpa using he
  clear E h5 T h4 S h1 D I f
  go_wp2_with fail
  go_ret2
  exact j.out
 subst he
 by_cases d6:ns=1
 case neg=>
  have j:=jq (f (by rw[x9.out];exact Fb (by rw[<-E,jP,<-I];exact d6)));have t1: ((ns:Int)==1)=false:=by simp;omega
  have t2: ((ns:Int) !=1)=true:=by simp;omega
  clear E h5 T h4 S h1 D I f
  go_wp2_with fail
  go_ret2
  exact j.out
 subst d6
 obtain⟨c,rfl⟩:∃z,z6= [z]:=by
  match z6,I with
  | [z],_=>exact⟨z,rfl⟩
 have x0:=h5 c (by simp);obtain⟨g3,d9,rfl,f8,x1⟩:=h4.resolve_left (λe=>by simp[Frame.gu,Frame.bJ.vs]at e);obtain⟨kd,G⟩:=jl c.kind.toNat;have p0:=x1 0 (.int .u8 (kd:Int)) (by simp[Frame.gu,Frame.bJ.vs,G,bv]);obtain⟨M,v⟩:=jl c.body.length;have p1:=x1 1 (.slice c.a M c.cp) (by simp[Frame.gu,Frame.bJ.vs,v]);rw[Nat.add_zero]at p0;have y0:=jq (show P=iT wd c.kind c.body by rw[x9.out];exact wP D.symm E.symm)
 by_cases b6:kd=82
 case neg=>
  have j:=jq (f (by
   rw[y0.out];unfold iT;rw[if_neg (λe=>b6 (by rw[G,e.1];rfl))]))
  have t1: ((kd:Int)==82)=false:=by simp;omega
  have t2: ((kd:Int) !=82)=true:=by simp;omega
  clear E h5 T h4 S h1 D I f x0 x1 G v
  go_wp2_with fail
  go_ret2
  exact j.out
 subst b6;have z2:c.kind=82:=UInt8.toNat_inj.1 (by rw[<-G];rfl)
 have i3: ((wd:Int)==0)=false:=by
  have:¬(wd:Int)=0:=by omega
  simpa using this
 obtain⟨r,hr⟩:=jl (M%wd);have g9: (M:Int).tmod (wd:Int)=(r:Int):=by rw[hr];exact(Int.ofNat_tmod M wd).symm
 by_cases b5:r=0
 case neg=>
  have j:=jq (f (by
   rw[y0.out];unfold iT;rw[if_neg (λe=>b5 (by rw[hr,v];exact e.2.1))]))
  have t1: ((r:Int)==0)=false:=by simp;omega
  have t2: ((r:Int) !=0)=true:=by simp;omega
  clear E h5 T h4 S h1 D I f x0 x1 G v hr z2
  go_wp2_with fail
  go_ret2
  exact j.out
 subst b5
 have g6:M<=1000000:=by
  have:=wQ (bs.length+1) bs c.kb (by rw[<-E];simp);have h2:=e9.out;have h3:c.kb.2.length=M:=v.symm
  omega
 have x3:M=M/wd*wd:=by have:=Nat.div_add_mod' M wd;omega
 obtain⟨m,hm⟩:=jl (M/wd);rw[<-hm]at x3;obtain⟨l,hl⟩:=jl (gT wd m c.body)
 have a8:=jq (show P=if aS l then some l else none by
  rw[y0.out];unfold iT;rw[<-v,<-hm,<-hl]
  by_cases h:aS l
  ·rw[if_pos h,if_pos ⟨z2,hr.symm,h⟩]
  ·rw[if_neg h,if_neg (λe=>h e.2.2)])
 have d1:l.length=m:=by rw[hl];exact uh wd m c.body
 have d2:∀b∈l,b.length=wd:=by rw[hl];exact uj (by rw[<-v];exact x3)
 have c1:∀k,k<m->l[k]? =some ((c.body.drop (k*wd)).take wd):=λk hk=>by rw[hl];exact Fe wd m c.body k hk
 obtain⟨i6,i7,f5,g2,y4,c4,_⟩:=own_shape x0;injection f5 with b3 _ b4;rw[<-b3]at y4 c4;rw[<-b4,<-v]at g2;have g5:=jq y4;have HM:=jq v;have A:=jq d1;have e8:=jq d2;have e2:=jq c1;have x7:=jq x3;have g4:=jq f8;have f1:=jq a4.out;have f3:=jq (show w3.ownsRow V.heap.size 136 2 (.slice (some ⟨g3,d9,none⟩) 1 e0) 1 (Frame.gu [c])from T);have e3:=jq (show ak w3 V.heap.size (.slice c.a M c.cp) c.body from by rw[v];exact x0);clear E h5 T h4 x1 y4 S b3 b4 x0 G v hr z2 x3 hm hl d1 d2 c1 D I c4 f6 f h1 a4
 go_wp2_with fail
 go_loopw[6,9] (λo i wr=>∃(k p:Nat) (L:Option Addr) (Z:Nat),k<=m/\i=.int .i64 (p:Int)/\o=.slice L k Z/\Hid (p=k*wd)/\Hid (eP wr w.heap.size (.slice L k Z) (l.take k))/\Hid (aS (l.take k))/\Hid (wr.ownsRow V.heap.size 136 2 (.slice (some ⟨g3,d9,none⟩) 1 e0) 1 (Frame.gu [c]))/\Hid (ak wr V.heap.size (.slice c.a M c.cp) c.body)/\Hid (Below w.heap.size w wr)) (λ_ i _=>M-(intOf i).toNat)
 case atStart=>exact⟨0,0,_,_,aC _,rfl,rfl,jq (by simp),jq f1.out,jq List.Pairwise.nil,f3,e3,a1⟩
 case round=>
  obtain⟨k,p,L,Z,hk,rfl,rfl,HP,x8,a9,b1,z8,O⟩:=hrel;have q1:=Po b1.out;rw[<-HM.out]at q1
  by_cases hlt:k<m
  ·have i0:p+wd<=M:=by rw[HP.out,x7.out,<-eY];exact jD _ hlt
   have g8:p<M:=by omega
   have G:decide ((p:Int) <(M:Int))=true:=jd (by omega);have y1:=jq (show IntKind.i64.wrap ((p:Int)+(wd:Int))=(p:Int)+(wd:Int)from(IntWalk.i64_left _).trans (IntWalk.wrap64_in _ (by omega)));obtain⟨b,hb⟩:∃b,l[k]? =some b:=⟨l[k]'(by rw[A.out];exact hlt),jg _⟩;have c5:b.length=wd:=e8.out b (jM hb)
   have c2:b=(c.body.drop p).take wd:=by
    have:=e2.out k hlt;rw[<-HP.out,hb]at this;exact Option.some.inj this
   obtain⟨ba,bc,e4,h6,y5,_,_⟩:=own_shape z8.out;injection e4 with e5 e7 e6;clear e7;rw[<-e5]at y5;rw[<-e6,<-HM.out]at h6
   obtain⟨gb,ob,eb,c7,c6⟩:=y5.resolve_left (λe=>by
    have:=congrArg List.length e;rw[jP,<-HM.out]at this
    simp at this
    omega)
   rw[eb]at q1
   have b9:Lies wr (some ⟨gb,ob+p,none⟩) (b.map bv):=by
    rw[c2,fA,jV];exact(Lies.drop (.inr ⟨gb,ob,rfl,c7,c6⟩) p).take wd
   obtain⟨N,t⟩:∃s:ByteArray,strB b=.string s:=⟨_,rfl⟩
   have x2: (convert 84 9 (.slice (some ⟨gb,ob+p,none⟩) wd (c.cp-p))).run prog wr=.ok (.string N) wr:=by
    have:=Full.tX (vc:=c.cp-p) b9;rw[c5,show nv b=.string N from t]at this;exact this
   have X:l.take (k+1)=l.take k++ [b]:=by rw[bF,hb];rfl
   have c9: (l.take k).length=k:=by rw[jT,A.out];omega
   obtain⟨W2,x4⟩:=jl (wr.alloc (.cells #[.string N] 9));have R:Below wr.heap.size wr W2:=by rw[x4];exact(Below.refl _ wr).alloc jn _
   have b7:Lies W2 (some ⟨wr.heap.size,0,none⟩) ([b].map strB):=by
    rw[x4];have:=jG wr 9 #[.string N]
    simpa[t]using this
   have g0:m<=1000000:=by
    have:=Nat.le_mul_of_pos_right m (show 0<wd by omega);have:=x7.out
    omega
   have h8:eP W2 w.heap.size (.slice L k Z) (l.take k):=own_later x8.out R;obtain⟨a3,c3,w4,h7,y6,z0⟩:=tZ W2 33 _ _ h8 (some ⟨wr.heap.size,0,none⟩) 1 [b] b7 (by rw[c9];simp;omega) (ax O.out.size R.size);rw[<-X,show(l.take (k+1)).length=k+1 by rw[jT,A.out];omega]at h7 y6;have z5:Upon (λq=>(Value.slice L k Z).ownBlock=some q) W2 w4:=Upon.of_grown z0 (λq hq=>.inl hq);have z4:=own_later b1.out R;have y9:=own_later z8.out R;have b2:=jq (fC z4 z5 (λq hq e=>(vR z4 h8 (by decide)).elim (λh=>by rw[h]at hq;cases hq) (λh=>h (by rw[hq,e]))));have z9:=jq (fC y9 z5 (λq hq e=>(vR y9 h8 (by decide)).elim (λh=>by rw[h]at hq;cases hq) (λh=>h (by rw[hq,e]))));have z7:=jq ((O.out.trans (R.mono O.out.size)).grown z0 (ax O.out.size R.size) (λq hq=>(h8.lt q hq).1));have a5:=jq y6;simp only[List.length_singleton]at h7;rw[x4]at h7;have f2:=jq hb;have a2:=jq t
   have d5:Lies wr L ((l.take k).map strB):=by
    obtain⟨_,_,e,_,h,_,_⟩:=own_shape x8.out;injection e with e1 _ _;rw[e1];exact h
   have f4:=jq X;have a7:=jq (show p+wd=(k+1)*wd by rw[HP.out,eY])
   have f7: (k=0\/∃pv,0<k/\l[k-1]? =some pv/\¬b<pv)\/∃pv,0<k/\l[k-1]? =some pv/\b<pv:=by
    by_cases h0:k=0
    ·exact .inl (.inl h0)
    ·have Y:l[k-1]? =some (l[k-1]'(by rw[A.out];omega)):=jg _
     by_cases h2:b<l[k-1]'(by rw[A.out];omega)
     ·exact .inr ⟨_,by omega,Y,h2⟩
     ·exact .inl (.inr ⟨_,by omega,Y,h2⟩)
   have a6:=jq d5;have g7:k<1000000:=by omega
   clear hb c5 c2 h6 y5 c7 c6 eb b9 t X c9 R b7 h8 y6 z0 z5 z4 y9 x4 d5 e5 e6 g0;rcases f7 with c8|⟨pv,x5,J,f⟩
   ·have b0:=jq (show aS (l.take (k+1))by
     rw[f4.out];refine Pq a9.out (λx Y=>?_);rcases c8 with rfl|⟨pv,x5,J,x6⟩
     ·simp at Y
     ·have:x=pv:=by
       rw[List.getLast?_eq_getElem?,jT,A.out,jh]at Y;rw[show min k m-1=k-1 by omega,if_pos (by omega),J]at Y;exact(Option.some.inj Y).symm
      rw[this];exact iM.1 x6)
    rcases c8 with x5|⟨pv,x5,J,x6⟩
    case inl=>
     have d0:decide (0<k)=false:=jf (by omega);have hw:=y1.out;clear x5
     go_wp2_with (first|(at_builtin;refine Lib.wpList_append_run _ rfl _ _ _ _ rfl _ _ rfl rfl _ _ h7 ?_))
     go_roundw
     case rel=>exact⟨k+1,p+wd,a3,c3,by omega,by simp,rfl,a7,a5,b0,b2,z9,z7⟩
     case measure=>
      clear hw
      simp[intOf]
      omega
    case inr=>
     have d0:decide (0<k)=true:=jd (by omega);obtain⟨sp,U⟩:∃s:ByteArray,strB pv=.string s:=⟨_,rfl⟩;obtain⟨og,oo,rfl,cp⟩:=iB a6.out (k:=k-1) (u:=.string sp) (by rw[List.getElem?_map,jh,if_pos (by omega),J];simp[U]);have z1:=zU (x:=pv) (y:=b) U a2.out;rw[jf x6]at z1;have f9:k-1<k:=by omega
     have hw:=y1.out;clear x6 J U
     go_wp2_with (first|(at_builtin;refine Lib.wpList_append_run _ rfl _ _ _ _ rfl _ _ rfl rfl _ _ h7 ?_))
     go_roundw
     case rel=>exact⟨k+1,p+wd,a3,c3,by omega,by simp,rfl,a7,a5,b0,b2,z9,z7⟩
     case measure=>
      clear hw
      simp[intOf]
      omega
   ·have d4:¬aS l:=λh=>by
     have:=wR.1 h (k-1) pv b J (by rw[show k-1+1=k by omega];exact f2.out);exact absurd f (iM.2 this)
    have hn:P=none:=by rw[a8.out,if_neg d4]
    obtain⟨W9,y8⟩:=jl (wr.alloc (.cells #[] 9));have j:=jq (show ug P w (.returned (.tuple #[.slice (some ⟨wr.heap.size,0,none⟩) 0 0,.bool false])) W9 from⟨by rw[y8];exact O.out.alloc O.out.size _,by rw[hn];exact⟨_,_,rfl⟩⟩);rw[y8]at j;have d0:decide (0<k)=true:=jd (by omega);obtain⟨sp,U⟩:∃s:ByteArray,strB pv=.string s:=⟨_,rfl⟩;obtain⟨og,oo,rfl,cp⟩:=iB a6.out (k:=k-1) (u:=.string sp) (by rw[List.getElem?_map,jh,if_pos (by omega),J];simp[U]);have z1:=zU (x:=pv) (y:=b) U a2.out;rw[jd f]at z1;have f9:k-1<k:=by omega
    have hw:=y1.out;clear f J U d4 hn y8 h7
    go_wp2_with fail
    go_ret2
    exact j.out
  ·obtain rfl:k=m:=by omega
   have g1:p=M:=by rw[HP.out,x7.out]
   subst g1;have G:decide ((p:Int) <(p:Int))=false:=jf (by omega);have X:l.take k=l:=jW (by rw[A.out];exact aj _);have z3:=a9.out;rw[X]at z3
   have j:=jq (show ug P w (.returned (.tuple #[.slice L k Z,.bool true])) wr from⟨O.out,by
    rw[a8.out,if_pos z3];have ho:=x8.out;rw[X]at ho;dsimp only;rw[A.out];exact⟨L,Z,rfl,ho⟩⟩)
   clear z3 X
   go_wp2_with fail
   go_ret2
   exact j.out
end Runs
namespace bQ
open Go.RowKit Full
open Store (au none' nv Files dV lT jJ)
theorem zZ(C:au)(H:Files)(nm:List UInt8)(o:Option (List UInt8)):cO (dV C nm (some o)) H=λx=>if x=nm then o else cO C H x:=by
 funext x
 by_cases e:x=nm
 ·subst e;rw[if_pos rfl];unfold cO;rw[lT]
 ·rw[if_neg e];unfold cO;rw[jJ _ e]
theorem um(H:Files):cO none' H=H:=by
 funext x
 rfl
variable {l:List FF}{C:au}{H:Files}
theorem aQ.write(h:aQ l (cO C H))(nm b:List UInt8):aQ (eO l nm b) (cO (dV C nm (some (some b))) H):=by
 rw[zZ];exact h.put nm b
theorem aQ.remove(h:aQ l (cO C H))(nm:List UInt8):aQ (eH l nm) (cO (dV C nm (some none)) H):=by
 rw[zZ];exact h.without nm
theorem aQ.was(h:aQ l (cO C H))(nm:List UInt8): (wE (cO C H nm)).1=if fE l nm<l.length then(l.getD (fE l nm) ([],[])).2 else []:=by
 obtain⟨a,c⟩:=h.find nm
 cases hf:cO C H nm with
 |none=>rw[if_neg (λhc=>a.1 hc hf)];rfl
 |some b=>
  rw[if_pos (a.2 (by rw[hf];exact λe=>by cases e)),List.getD_eq_getElem?_getD,c b hf]
  rfl
theorem aQ.names{F:Files}(h:aQ l F){ss:List (List UInt8)}(j:ss.Pairwise (·< ·))(f:∀nm,nm∈ss↔F nm≠none):l.map Prod.fst=ss:=by
 have i:aQ (ss.map λnm=>(nm,(F nm).getD [])) F:=by
  refine⟨kJ.2 (j.imp (λh=>h)),λnm b=>?_⟩;rw[List.mem_map]
  constructor
  ·rintro⟨x,k,e⟩;cases e;have:=(f nm).1 k
   cases a:F nm with
   |none=>exact absurd a this
   |some c=>rfl
  ·intro a;exact⟨nm,(f nm).2 (by rw[a];exact λe=>by cases e),by rw[a];rfl⟩
 rw[h.uniq i,List.map_map];exact List.map_id _
end bQ
namespace Full
open Go.RowKit Go.Deep Mem Crc Go.Maps Dk aA bQ
open Store (au none' nv Files Sto dV setF)
open Ext (Tab)
variable {B s d g cm:Nat}{w:World}{Q:Nat->Prop}{m:DM}{ver next:Nat}{fs:List af}{C:au}{H:Files}{n:Nat}
theorem Ff(C:au)(H:Files)(nm:List UInt8)(o:Option (List UInt8)):cO (dV C nm (some o)) H=setF (cO C H) nm o:=by
 rw[zZ]
 funext x
 unfold setF
 by_cases e:x=nm
 ·simp only[if_pos e]
 ·simp only[if_neg e]
theorem On.stays{w':World}(h:On B s d g cm w Q m ver next fs C H n)(f:w.heap.size<=w'.heap.size)(e:∀k,Q k\/k=0->w'.heap[k]? =w.heap[k]?):On B s d g cm w' Q m ver next fs C H n:=by
 obtain⟨wv,a,c,l,i,hl⟩:=h.fu;exact⟨⟨wv,a,c,l,i.keep f (λk hq=>e k (.inl hq)),hl⟩,h.off,h.wt,h.big,h.on,h.ok,h.few,h.base,λj o=>(World.cell?_of_block (e 0 (.inr rfl))).trans (h.tab j o),h.pos,ax h.low f⟩
theorem On.short(h:On B s d g cm w Q m ver next fs C H n){nm b:List UInt8}(hb:cO C H nm=some b):nm.length<=32/\b.length<=1048576:=by
 obtain⟨L,t,G,v,x⟩:=h.few;unfold cO at hb
 cases hc:C nm with
 |some o=>
  rw[hc]at hb;dsimp only at hb;exact⟨v nm (t nm (by rw[hc];exact λe=>by cases e)),x nm b (by rw[hc,hb])⟩
 |none=>
  rw[hc]at hb;dsimp only at hb;have k:nm∈fs.map af.name:=rZ (λe=>by rw[h.on.none_ nm e]at hb;cases hb);obtain⟨f,a,rfl⟩:=List.mem_map.1 k;obtain⟨y,c,i⟩:=h.on.there f a;rw[hb]at c;cases c;have j:=h.ok.fit f a;have z:=zH (h.ok.ok.each f a).many;have A:=vZ a;have D:=h.ok.few;refine⟨j.1,?_⟩;have E:b.length=f.size:=i.size.symm
  omega
structure XL(B s d g cm:Nat)(m:DM)(ver next:Nat)(fs:List af)(H:Files)(w:World)(Q:Nat->Prop)(off:Bool)(F:Files)(n:Nat):Prop where
 on:∃(C:au) (k:Nat) (Q0:Nat->Prop),On B s d g cm w Q0 m ver next fs C H k/\F=cO C H/\k+20000<=n/\∀x,Q x↔Q0 x\/x=0
 up:off=false
 few:n<=100000
end Full
namespace Read
open Go.RowKit aA Varint Full
abbrev St:=List UInt8×Int
def aK(most:Nat)(s:St):Nat×St:=if s.2=0 then((fO most 0 0 s.1).1,(s.1.drop (fO most 0 0 s.1).2.1,(fO most 0 0 s.1).2.2))else(0,s)
def gU(n:Nat)(s:St):List UInt8×St:=if s.2=0 then(if s.1.length<n then([],(s.1,2))else(s.1.take n,(s.1.drop n,0)))else([],s)
def gV:Nat->St->List Nat->List Nat×St
 |0,s,acc=>(acc,s)
 |k+1,s,acc=>if s.2=0 then gV k (aK 65536 s).2 (acc++ [(aK 65536 s).1])else(acc,s)
def uo(s:St):af×St:=
 let a:=aK 32 s
 let b:=gU a.1 a.2
 let c:=aK 4294967295 b.2
 let d:=aK 7340032 c.2
 (⟨b.1,c.1,d.1,[]⟩,d.2)
def gH(s:St):af×St:=
 let h:=uo s
 let b:=gV (aA.many h.1.size) h.2 []
 ({h.1 with blocks:=b.1},b.2)
def gW:Nat->St->List af->List af×St
 |0,s,acc=>(acc,s)
 |k+1,s,acc=>if s.2=0 then gW k (gH s).2 (acc++ [(gH s).1])else(acc,s)
structure dW where
 ver:Nat
 next:Nat
 fs:List af
 err:Int
def bK(b:List UInt8):dW:=
 let a:=aK 18446744073709551615 (b,0)
 let c:=aK 4294967295 a.2
 let n:=aK 2048 c.2
 let f:=gW n.1 n.2 []
 ⟨a.1,c.1,f.1,kr f.2.1 f.2.2⟩
variable {n ver:Nat}{fs:List af}
theorem Fg{i:Nat}(h:n*2^(7*i) <2^64)(c:7*i<=64):i*7+Lib.bitLen n<=64:=by
 have a:n<2^(64-7*i):=by
  have e:2^64=2^(64-7*i)*2^(7*i):=by rw[<-Nat.pow_add];congr 1;omega
  rw[e]at h;exact Nat.lt_of_mul_lt_mul_right h
 have:=Lib.bitLen_le n (64-7*i) (by omega) a
 omega
theorem Ps(h:n<128): (UInt8.ofNat n).toNat=n:=by simp;omega
theorem Pt(n:Nat): (UInt8.ofNat (n%128+128)).toNat=n%128+128:=by
 have:=fJ n (show 0<128 by decide)
 simp
 omega
theorem Pv(most:Nat)(rest:List UInt8):∀(n i N:Nat),N+n*2^(7*i) <2^64->N+n*2^(7*i)<=most->(i=0\/0<n)->fO most i N (aT n++rest)=(N+n*2^(7*i),i+(aT n).length,0):=by
 intro n
 induction n using Nat.strongRecOn with
 |ind n o=>
  intro i N j k a;have A:0<2^(7*i):=Nat.pow_pos (by decide)
  have f:7*i<=64:=by
   rcases a with a|a
   ·omega
   ·refine rZ λhc=>?_
    have t:2^64<=2^(7*i):=mq (by decide) (by omega);have v:2^(7*i)<=n*2^(7*i):=Nat.le_mul_of_pos_left _ a
    omega
  by_cases hl:n<128
  ·rw[qM hl];have hb:=Fg (n:=n) (i:=i) (by omega) f;have c:n%128=n:=oP hl;show fO most i N (UInt8.ofNat n ::rest)=_;unfold fO;rw[Ps hl,c,if_neg (by omega),if_neg (by omega),if_neg (by omega)]
   rfl
  ·rw[vC (by omega)];have z:n%128<128:=fJ _ (by decide);have x:=Nat.div_add_mod n 128;have y:n%128*2^(7*i)<=n*2^(7*i):=jD _ (Nat.mod_le _ _);have hb:=Fg (n:=n%128) (i:=i) (by omega) f;have c: (n%128+128)%128=n%128:=by omega
   have h:2^(7*(i+1))=128*2^(7*i):=by rw[show 7*(i+1)=7+7*i by omega,Nat.pow_add]
   have e:N+n%128*2^(7*i)+n/128*2^(7*(i+1))=N+n*2^(7*i):=by
    rw[h,<-mG,Nat.add_assoc,<-Nat.add_mul]
    congr 2
    omega
   show fO most i N (UInt8.ofNat (n%128+128)::(aT (n/128)++rest))=_;unfold fO;rw[Pt,c,if_neg (by omega),if_pos (by omega),o (n/128) (by omega) (i+1) _ (by rw[e];exact j) (by rw[e];exact k) (.inr (by omega)),e,List.length_cons]
   congr 2
   omega
theorem pO{most:Nat}(h:n<=most)(a:n<18446744073709551616)(rest:List UInt8):aK most (aT n++rest,0)=(n,(rest,0)):=by
 have:=Pv most rest n 0 0 (by simpa using a) (by simpa using h) (.inl rfl);simp only[Nat.mul_zero,Nat.pow_zero,Nat.mul_one,Nat.zero_add]at this;unfold aK;rw[if_pos rfl];dsimp only;rw[this];dsimp only;rw[List.drop_left]
theorem Pw(nm rest:List UInt8):gU nm.length (nm++rest,0)=(nm,(rest,0)):=by
 unfold gU;rw[if_pos rfl];dsimp only;rw[if_neg (by rw[jL];omega),kH,List.drop_left]
theorem Fh(rest:List UInt8):∀(l acc:List Nat),(∀i∈l,i<=65536)->gV l.length (eG l++rest,0) acc=(acc++l,(rest,0))
 | [],acc,_=>by show(acc,(rest,(0:Int)))=_;rw[List.append_nil]
 |i ::r,acc,h=>by
  have a:=h i (by simp);have e:eG (i ::r)++rest=aT i++(eG r++rest):=by unfold aA.eG;rw[jC,List.append_assoc]
  rw[e,List.length_cons];unfold gV;rw[if_pos rfl,pO a (by omega),Fh rest r _ (λj c=>h j (by simp[c])),List.append_assoc]
  rfl
structure wS(f:af):Prop where
 name:f.name.length<=32
 id:f.id<=4294967295
 size:f.size<=7340032
 many:aA.many f.size=f.blocks.length
 blocks:∀i∈f.blocks,i<=65536
theorem Px{f:af}(h:wS f)(rest:List UInt8):gH (bW f++rest,0)=(f,(rest,0)):=by
 have e:bW f++rest=aT f.name.length++(f.name++(aT f.id++(aT f.size++(eG f.blocks++rest)))):=by unfold aA.bW;simp only[List.append_assoc]
 have hd:uo (bW f++rest,0)=(⟨f.name,f.id,f.size,[]⟩,(eG f.blocks++rest,0)):=by
  unfold uo;rw[e,pO h.name (by have:=h.name;omega)];dsimp only;rw[Pw];dsimp only;rw[pO h.id (by have:=h.id;omega)];dsimp only;rw[pO h.size (by have:=h.size;omega)]
 unfold gH;rw[hd];dsimp only;rw[h.many,Fh rest f.blocks [] h.blocks]
 rfl
theorem Fj(rest:List UInt8):∀(fs acc:List af),(∀f∈fs,wS f)->gW fs.length (fs.flatMap bW++rest,0) acc=(acc++fs,(rest,0))
 | [],acc,_=>by show(acc,(rest,(0:Int)))=_;rw[List.append_nil]
 |f ::r,acc,h=>by
  have e: (f ::r).flatMap bW++rest=bW f++(r.flatMap bW++rest):=by rw[jC,List.append_assoc]
  rw[e,List.length_cons];unfold gW;rw[if_pos rfl,Px (h f (by simp)),Fj rest r _ (λg a=>h g (by simp[a])),List.append_assoc]
  rfl
theorem Py{next:Nat}(a:ver<18446744073709551616)(c:next<4294967296)(hl:fs.length<=2048)(h:∀f∈fs,wS f):bK (bN ver next fs)=⟨ver,next,fs,0⟩:=by
 unfold bK;have e:bN ver next fs=aT ver++(aT next++(aT fs.length++fs.flatMap bW)):=rfl;rw[e,pO (by omega) a];dsimp only;rw[pO (by omega) (by omega)];dsimp only;rw[pO hl (by omega)];dsimp only;have:=Fj [] fs [] h;rw[List.append_nil,List.nil_append]at this;rw[this]
 rfl
theorem Pz{next:Nat}(h:dO n ver next fs):∀f∈fs,wS f:=λf c=>by
 have a:=h.fit f c;have k:=h.size f c;have e:=h.ok.each f c;have o:=a.2.1.id;exact⟨a.1,by omega,by omega,e.many,λi j=>by have:=a.2.2 i j;omega⟩
theorem PD{next:Nat}(h:dO n ver next fs):bK (bN ver next fs)=⟨ver,next,fs,0⟩:=by
 have:=h.few;exact Py h.ver h.next (by omega) (Pz h)
theorem Fp(most:Nat):∀(bs:List UInt8) (i n:Nat),(fO most i n bs).1<=most/\(fO most i n bs).2.1<=i+bs.length/\((fO most i n bs).2.2=0->i<(fO most i n bs).2.1)
 | [],i,n=>⟨aC _,aC _,λh=>by cases h⟩
 |c ::r,i,n=>by
  unfold fO
  split
  ·exact⟨aC _,aC _,λh=>by cases h⟩
  ·split
   ·obtain⟨a,f,e⟩:=Fp most r (i+1) (n+c.toNat%128*2^(7*i));exact⟨a,by rw[List.length_cons];omega,λh=>by have:=e h;omega⟩
   ·split
    ·exact⟨aC _,aC _,λh=>by cases h⟩
    ·rename_i a
     exact⟨by omega,by rw[List.length_cons];show i+1<=_;omega,λ_=>Nat.lt_succ_self _⟩
theorem jN(most:Nat)(s:St): (aK most s).1<=most/\(aK most s).2.1.length<=s.1.length/\((aK most s).2.2=0->(aK most s).2.1.length<s.1.length):=by
 unfold aK
 by_cases h:s.2=0
 ·rw[if_pos h];obtain⟨c,a,e⟩:=Fp most s.1 0 0;refine⟨c,by rw[List.length_drop];omega,λf=>?_⟩;have i:=e f;show(s.1.drop _).length<_;rw[List.length_drop]
  omega
 ·rw[if_neg h];exact⟨aC _,aj _,λa=>absurd a h⟩
theorem Fq(n:Nat)(s:St): (gU n s).1.length<=n/\(gU n s).2.1.length<=s.1.length:=by
 unfold gU
 split
 ·split
  ·exact⟨aC _,aj _⟩
  ·exact⟨by rw[jT];omega,by rw[List.length_drop];omega⟩
 ·exact⟨aC _,aj _⟩
theorem Fs:∀(k:Nat) (s:St) (acc:List Nat),(∀i∈acc,i<=65536)->(∀i∈(gV k s acc).1,i<=65536)/\(gV k s acc).2.1.length<=s.1.length/\(gV k s acc).1.length+(gV k s acc).2.1.length<=acc.length+s.1.length+1
 |0,s,acc,h=>⟨h,aj _,by show acc.length+s.1.length<=_;omega⟩
 |k+1,s,acc,h=>by
  unfold gV
  by_cases f:s.2=0
  ·rw[if_pos f];obtain⟨n1,n2,v⟩:=jN 65536 s
   have c:∀i∈acc++ [(aK 65536 s).1],i<=65536:=λi a=>by
    rcases List.mem_append.1 a with a|a
    ·exact h i a
    ·rw[jE.1 a];exact n1
   by_cases j: (aK 65536 s).2.2=0
   ·obtain⟨o,x,t⟩:=Fs k (aK 65536 s).2 _ c;have:=v j;rw[jL,List.length_singleton]at t;exact⟨o,by omega,by omega⟩
   ·have e:gV k (aK 65536 s).2 (acc++ [(aK 65536 s).1])=(acc++ [(aK 65536 s).1],(aK 65536 s).2):=by
     cases k with
     |zero=>rfl
     |succ k=>unfold gV;rw[if_neg j]
    rw[e];refine⟨c,n2,?_⟩;dsimp only;rw[jL,List.length_singleton]
    omega
  ·rw[if_neg f];exact⟨h,aj _,by show acc.length+s.1.length<=_;omega⟩
structure mW(f:af):Prop where
 name:f.name.length<=32
 id:f.id<=4294967295
 size:f.size<=7340032
 blocks:∀i∈f.blocks,i<=65536
theorem PE(s:St):mW (gH s).1/\(gH s).1.blocks.length+(gH s).2.1.length<=s.1.length+1:=by
 unfold gH uo;dsimp only;obtain⟨h,j,_⟩:=jN 32 s;obtain⟨k,o⟩:=Fq (aK 32 s).1 (aK 32 s).2;obtain⟨c1,c2,_⟩:=jN 4294967295 (gU (aK 32 s).1 (aK 32 s).2).2;obtain⟨a,t,_⟩:=jN 7340032 (aK 4294967295 (gU (aK 32 s).1 (aK 32 s).2).2).2;obtain⟨c,v,e⟩:=Fs (aA.many (aK 7340032 (aK 4294967295 (gU (aK 32 s).1 (aK 32 s).2).2).2).1) (aK 7340032 (aK 4294967295 (gU (aK 32 s).1 (aK 32 s).2).2).2).2 [] (λi f=>by cases f);refine⟨⟨by show(gU _ _).1.length<=32;omega,c1,a,c⟩,?_⟩;rw[List.length_nil]at e
 omega
theorem Fv:∀(k:Nat) (s:St) (acc:List af),(∀f∈acc,mW f)->(∀f∈(gW k s acc).1,mW f)/\(gW k s acc).1.length<=acc.length+k/\(aI (gW k s acc).1).length+(gW k s acc).2.1.length<=(aI acc).length+s.1.length+k
 |0,s,acc,h=>⟨h,aj _,aj _⟩
 |k+1,s,acc,h=>by
  unfold gW
  by_cases c:s.2=0
  ·rw[if_pos c];obtain⟨o,t⟩:=PE s
   obtain⟨f1,i,j⟩:=Fv k (gH s).2 (acc++ [(gH s).1]) (λf a=>by
    rcases List.mem_append.1 a with a|a
    ·exact h f a
    ·rw[jE.1 a];exact o)
   have e: (aI (acc++ [(gH s).1])).length=(aI acc).length+(gH s).1.blocks.length:=by
    unfold aA.aI;rw[ig,jL]
    simp
   rw[e]at j;rw[jL,List.length_singleton]at i;exact⟨f1,by omega,by omega⟩
  ·rw[if_neg c];exact⟨h,by show acc.length<=_;omega,by show(aI acc).length+s.1.length<=_;omega⟩
theorem Fw(b:List UInt8): (bK b).ver<=18446744073709551615/\(bK b).next<=4294967295/\(∀f∈(bK b).fs,mW f)/\(bK b).fs.length<=2048/\(aI (bK b).fs).length<=b.length+2048:=by
 unfold bK;dsimp only;obtain⟨a,c,_⟩:=jN 18446744073709551615 (b,0);obtain⟨h,o,_⟩:=jN 4294967295 (aK 18446744073709551615 (b,0)).2;obtain⟨c1,c2,_⟩:=jN 2048 (aK 4294967295 (aK 18446744073709551615 (b,0)).2).2;obtain⟨f1,i,j⟩:=Fv (aK 2048 (aK 4294967295 (aK 18446744073709551615 (b,0)).2).2).1 (aK 2048 (aK 4294967295 (aK 18446744073709551615 (b,0)).2).2).2 [] (λf k=>by cases k);have e: (aI ([]:List af)).length=0:=rfl;rw[e]at j;rw[List.length_nil]at i;dsimp only at c;exact⟨a,h,f1,by omega,by omega⟩
theorem PG{next:Nat}(P:ver<=18446744073709551615)(O:next<=4294967295)(y:∀f∈fs,mW f)(hl:fs.length<=2048)(hb: (aI fs).length<=250000): (bN ver next fs).length<=900000:=by
 have D:=fP 9 ver (by omega);have E:=fP 4 next (by omega);have G:=fP 9 fs.length (by omega)
 have k:∀l:List Nat,(∀i∈l,i<=65536)->(eG l).length<=3*l.length:=by
  intro l
  induction l with
  |nil=>intro _;exact aj _
  |cons i r a=>
   intro h;have t:=fP 2 i (by have:=h i (by simp);omega);have c:=a (λj z=>h j (by simp[z]));unfold aA.eG at c⊢;rw[jC,jL,List.length_cons]
   omega
 have o:∀l:List af,(∀f∈l,mW f)->(l.flatMap bW).length<=60*l.length+3*(aI l).length:=by
  intro l
  induction l with
  |nil=>intro _;exact aj _
  |cons f r a=>
   intro h;have g:=h f (by simp);have t:=fP 0 f.name.length (by have:=g.name;omega);have c:=fP 4 f.id (by have:=g.id;omega);have J:=fP 4 f.size (by have:=g.size;omega);have L:=k f.blocks g.blocks;have M:=a (λx A=>h x (by simp[A]));have N:=g.name;have e: (aI (f ::r)).length=f.blocks.length+(aI r).length:=by unfold aA.aI;rw[jC,jL]
   have v: (bW f).length=(aT f.name.length).length+(f.name.length+((aT f.id).length+((aT f.size).length+(eG f.blocks).length))):=by
    unfold aA.bW;simp only[jL]
   rw[e,jC,jL,List.length_cons,v]
   omega
 have I:=o fs y;unfold aA.bN;simp only[jL]
 omega
def gX(bs:List UInt8):Option (Nat×Nat×List af):=
 if(Frame.got bs).2.2.2=0/\(Frame.got bs).1=77 then
  (if(bK (Frame.got bs).2.1).err=0/\dw (bK (Frame.got bs).2.1).ver (bK (Frame.got bs).2.1).next (bK (Frame.got bs).2.1).fs=true then some ((bK (Frame.got bs).2.1).ver,(bK (Frame.got bs).2.1).next,(bK (Frame.got bs).2.1).fs)else none)
 else none
theorem Aa(k:UInt8)(n:Nat)(h:n<=1048576):Frame.num (Frame.head k n)=n:=by
 unfold Frame.num Frame.head;simp only[List.getD_cons_succ,List.getD_cons_zero,UInt8.toNat_ofNat']
 omega
open Crc in
theorem PI(k:UInt8)(b rest:List UInt8)(hb:b.length<=1048576):Frame.got (Frame.bq k b++rest)=(k,b,13+b.length,0):=by
 have hl:=Frame.jY k b;have c: (marked (Frame.head k b.length)).length=9:=by rw[gG];rfl
 have v: (marked b).length=b.length+4:=gG b;have a:Frame.bq k b++rest=marked (Frame.head k b.length)++(marked b++rest):=by unfold Frame.bq;rw[List.append_assoc]
 have e: (Frame.bq k b++rest).take 9=marked (Frame.head k b.length):=by rw[a,<-c,kH]
 have f: (Frame.bq k b++rest).drop 9=marked b++rest:=by rw[a,<-c,List.drop_left]
 have h: (marked b++rest).take (b.length+4)=marked b:=by rw[<-v,kH]
 have j:=(wT (Frame.head k b.length)).2;have o:=(wT b).2;have i:aB (marked (Frame.head k b.length))=Frame.head k b.length:=uq _;have t: (Frame.bq k b++rest).length=13+b.length+rest.length:=by rw[jL,hl];omega
 unfold Frame.got;rw[e,f,i,Aa k b.length hb,h,j,o,uq,t];rw[if_neg (by omega),if_neg (by decide),if_neg (by omega),if_neg (by omega),if_neg (by decide)]
 rfl
theorem PK{next:Nat}(h:dO n ver next fs):gX (bI ver next fs)=some (ver,next,fs):=by
 have c:=vE h.may;have a:=PI 77 (bN ver next fs) (List.replicate (2035-(bN ver next fs).length) 0) (by omega);unfold gX aA.bI;rw[a];dsimp only;rw[if_pos ⟨rfl,rfl⟩,PD h];dsimp only;rw[if_pos ⟨rfl,h.may⟩]
end Read
namespace Read
open Go.RowKit Go.Deep Mem Crc aA Full
theorem PN{base:Nat}(w:World)(f:TypeId)(v:Value)(l:List Nat)(h:w.ownsRow base 3 1 v l.length (l.map iv))(x:Nat)(E:l.length<=1000000)(hb:base<=w.heap.size):
  ∃a w',(Builtin.append_ #[111,111] f #[v,.slice (some ⟨w.heap.size,0,none⟩) 1 1]).run prog (w.alloc (.cells #[iv x] 3))=.ok a w'/\w'.ownsRow base 3 1 a (l++ [x]).length ((l++ [x]).map iv)/\w.grownBy w' v.ownBlock:=by
 obtain⟨i,y,D,k,o⟩:=info_parts Ext.Dr;have c:Below w.heap.size w (w.alloc (.cells #[iv x] 3)):=(Below.refl _ w).alloc jn _
 obtain⟨a,w',A,z,t,_⟩:=run_append_own (P:=prog) (w.alloc (.cells #[iv x] 3)) base 111 f 3 i (.int .i64 0) 1 8 underlying111 y D k o rfl (by decide) v l.length (l.map iv) (own_later h c) ⟨w.heap.size,0,none⟩ 1 1 [iv x] rfl (λj u e=>by
  have:=dQ (jG w 3 #[iv x]) j u e;exact this) (λu e=>by rw[jE.1 e];rfl) (by unfold maxLen;omega) (by omega) (ax hb c.size)
 refine⟨a,w',A,?_,sj c t⟩;rw[jL,aZ];exact z
theorem Fx{base:Nat}(w:World)(k:TypeId)(v:Value)(l:List FR)(h:w.ownsRow base 113 4 v l.length (ay l))(x:FR)(G:l.length<=1000000)(hb:base<=w.heap.size):
  ∃c w',(Builtin.append_ #[106,106] k #[v,.slice (some ⟨w.heap.size,0,none⟩) 1 1]).run prog (w.alloc (.cells x.vs.toArray 113))=.ok c w'/\w'.ownsRow base 113 4 c (l++ [x]).length (ay (l++ [x]))/\w.grownBy w' v.ownBlock:=by
 obtain⟨i,z,E,o,t⟩:=info_parts sJ;have f:Below w.heap.size w (w.alloc (.cells x.vs.toArray 113)):=(Below.refl _ w).alloc jn _
 obtain⟨c,w',D,A,y,_⟩:=run_append_own (P:=prog) (w.alloc (.cells x.vs.toArray 113)) base 106 k 113 i (.agg #[.string ⟨#[]⟩,.int .u32 0,.int .i64 0,.slice none 0 0]) 4 56 underlying106 z E o t rfl (by decide) v l.length (ay l) (own_later h f) ⟨w.heap.size,0,none⟩ 1 1 x.vs rfl (λj u a=>by
  have:=dQ (jG w 113 x.vs.toArray) j u (by simpa using a);exact this) (λu a=>by
  unfold FR.vs at a;simp only[List.mem_cons,List.not_mem_nil,or_false]at a;rcases a with rfl|rfl|rfl|rfl <;> rfl) (by unfold maxLen;omega) (by omega) (ax hb f.size)
 refine⟨c,w',D,?_,sj f y⟩;have e:ay (l++ [x])=ay l++x.vs:=by unfold ay;rw[ig];simp
 rw[jL,e];exact A
structure RS(w:World)(r q rd ver next:Nat)(u:Value)(l:List FR)(s:St)(W:World):Prop where
 below:Below w.heap.size w W
 res:Blk W r 108 #[.int .u64 0,.int .u32 0,.slice none 0 0]
 man:Blk W q 108 #[.int .u64 (ver:Int),.int .u32 (next:Int),u]
 row:W.ownsRow w.heap.size 113 4 u l.length (ay l)
 blocks:∀x∈l,iP w.heap.size W x
 rd:Rd w.heap.size W rd s.1 s.2
 gq:w.heap.size<=q
 gr:w.heap.size<=r
 ne:q≠r
variable {w W W':World}{r q rd ver next:Nat}{u u':Value}{l l':List FR}{s s':St}
theorem Rd.blk{B:Nat}{rd:Nat}{bs:List UInt8}{e:Int}(h:Rd B W rd bs e):∃c,Blk W rd 278 c/\B<=rd:=by
 obtain⟨a,cap,f,_,_,_,_,i⟩:=h;exact⟨_,f,i⟩
theorem RS.upon(h:RS w r q rd ver next u l s W){X:Nat->Prop}(e:Upon X W W')(i:∀k,X k->w.heap.size<=k)(o:¬X r)(t:¬X q)(v:∀k,u.ownBlock=some k->¬X k)(y:∀x∈l,∀k,(Value.slice x.a x.f.blocks.length x.c).ownBlock=some k->¬X k)(z:¬X rd):RS w r q rd ver next u l s W':=
 ⟨h.below.trans (e.below h.below.size i),h.res.upon e o,h.man.upon e t,fC h.row e v,λx j=>fC (h.blocks x j) e (y x j),h.rd.upon e z i,h.gq,h.gr,h.ne⟩
theorem RS.later(h:RS w r q rd ver next u l s W)(a:Below W.heap.size W W'):RS w r q rd ver next u l s W':=
 h.upon (X:=λ_=>False) (Upon.of_below a) (λ_ c=>c.elim) id id (λ_ _=>id) (λ_ _ _ _=>id) id
theorem RS.uw(h:RS w r q rd ver next u l s W)(a:Upon (λk=>k=rd) W W')(o:Rd w.heap.size W' rd s'.1 s'.2):RS w r q rd ver next u l s' W':=by
 obtain⟨t,hb,j⟩:=h.rd.blk;have i:∀k,k=rd->w.heap.size<=k:=λk e=>by rw[e];exact j
 exact⟨h.below.trans (a.below h.below.size i),h.res.upon a (h.res.ne hb (by decide)),h.man.upon a (h.man.ne hb (by decide)),fC h.row a (λk c e=>aV h.row hb (by decide) (e▸c)),λx f=>fC (h.blocks x f) a (λk c e=>aV (h.blocks x f) hb (by decide) (e▸c)),o,h.gq,h.gr,h.ne⟩
theorem RS.read(h:RS w r q rd ver next u l s W)(c:Only [rd] W W')(e:Rd w.heap.size W' rd s'.1 s'.2):RS w r q rd ver next u l s' W':=
 h.uw (Upon.fB c (λ_ a=>.inl (jE.1 a))) e
theorem RS.tF(h:RS w r q rd ver next u l s W)(i:W.grownBy W' u.ownBlock)(z:W'.ownsRow w.heap.size 113 4 u' l'.length (ay l'))(hb:∀x∈l',x∈l\/iP w.heap.size W x):RS w r q rd ver next u' l' s (W'.setCell ⟨q,2,none⟩ u'):=by
 obtain⟨J,D,M⟩:=h.rd.blk;have a:Upon (λk=>u.ownBlock=some k) W W':=Upon.of_grown i (λg i=>.inl i);have o:∀k,u.ownBlock=some k->w.heap.size<=k:=λk j=>(h.row.lt k j).1
 have c:=h.man.upon a (aV h.row h.man (by decide));have G:=h.res.upon a (aV h.row h.res (by decide))
 have t:∀x∈l',iP w.heap.size W' x:=λx f=>by
  have v:iP w.heap.size W x:=(hb x f).elim (h.blocks x) id;exact fC v a (λk j e=>vP h.row v (by decide) e j)
 have y:=h.rd.upon a (aV h.row D (by decide)) o;have I:Upon (λk=>k=q) W' (W'.setCell ⟨q,2,none⟩ u'):=(Upon.refl (λk=>k=q) W').set (p:=⟨q,2,none⟩) (.inl rfl) _;obtain⟨L,E,_⟩:=y.blk;have A:=h.below.trans (a.below h.below.size o);exact⟨A.setCell h.gq _,G.far (gL h.ne) _,c.set 2 _,dU z (aV z c (by decide)) _,λx f=>dU (t x f) (aV (t x f) c (by decide)) _,y.upon I (E.ne c (by decide)) (λk e=>by rw[e];exact h.gq),h.gq,h.gr,h.ne⟩
theorem RS.files(h:RS w r q rd ver next u l s W):∃a c,u=.slice a l.length c/\bV W a l/\(∀b,Mem.blk a=some b->w.heap.size<=b/\b<W.heap.size)/\∀x∈l,∀b,Mem.blk x.a=some b->w.heap.size<=b/\b<W.heap.size:=by
 obtain⟨a,c,rfl,_,k,o,_⟩:=own_shape h.row;refine⟨a,c,rfl,⟨k,λx f=>?_⟩,o,λx f b hb=>?_⟩
 ·obtain⟨j,c2,e,hc,i,_,_⟩:=own_shape (h.blocks x f);cases e;exact⟨i,hc⟩
 ·obtain⟨j,c2,e,hc,i,t,_⟩:=own_shape (h.blocks x f);cases e;exact t b hb
structure BS(w:World)(r q rd ver next:Nat)(u:Value)(l:List FR)(fb:Nat)(nm:Value)(id sz:Nat)(bu:Value)(acc:List Nat)(s:St)(W:World):Prop where
 rs:RS w r q rd ver next u l s W
 box:Blk W fb 113 #[nm,.int .u32 (id:Int),.int .i64 (sz:Int),bu]
 bl:W.ownsRow fb 3 1 bu acc.length (acc.map iv)
 gf:w.heap.size<=fb
 lu:∀k,u.ownBlock=some k->k<fb
 lx:∀x∈l,∀k,(Value.slice x.a x.f.blocks.length x.c).ownBlock=some k->k<fb
variable {fb id sz id' sz':Nat}{nm bu jy:Value}{acc acc':List Nat}
theorem BS.start(h:RS w r q rd ver next u l s W)(nm:Value)(id sz:Nat):BS w r q rd ver next u l W.heap.size nm id sz (.slice none 0 0) [] s (W.alloc (.cells #[nm,.int .u32 (id:Int),.int .i64 (sz:Int),.slice none 0 0] 113)):=
 ⟨h.later ((Below.refl _ W).alloc jn _),Blk.new W _ _,World.ownsRow_nil _ _ _ _,h.below.size,λk a=>(h.row.lt k a).2,λx c k a=>(World.ownsRow.lt (h.blocks x c) k a).2⟩
theorem BS.upon(h:BS w r q rd ver next u l fb nm id sz bu acc s W){X:Nat->Prop}(o:Upon X W W')(c:∀k,X k->fb<k\/k=fb)(f:¬X r)(i:¬X q)(j:¬X rd):RS w r q rd ver next u l s W':=
 h.rs.upon o (λk a=>by have:=h.gf;have:=c k a;omega) f i (λk a e=>by have:=h.lu k a;have:=c k e;omega) (λx e k a t=>by have:=h.lx x e k a;have:=c k t;omega) j
theorem BS.uw(h:BS w r q rd ver next u l fb nm id sz bu acc s W)(a:Upon (λk=>k=rd) W W')(f:Rd w.heap.size W' rd s'.1 s'.2):BS w r q rd ver next u l fb nm id sz bu acc s' W':=by
 obtain⟨i,hb,j⟩:=h.rs.rd.blk;exact⟨h.rs.uw a f,h.box.upon a (h.box.ne hb (by decide)),fC h.bl a (λk c e=>aV h.bl hb (by decide) (e▸c)),h.gf,h.lu,h.lx⟩
theorem BS.read(h:BS w r q rd ver next u l fb nm id sz bu acc s W)(c:Only [rd] W W')(e:Rd w.heap.size W' rd s'.1 s'.2):BS w r q rd ver next u l fb nm id sz bu acc s' W':=
 h.uw (Upon.fB c (λ_ a=>.inl (jE.1 a))) e
theorem BS.later(h:BS w r q rd ver next u l fb nm id sz bu acc s W)(a:Below W.heap.size W W'):BS w r q rd ver next u l fb nm id sz bu acc s W':=
 ⟨h.rs.later a,h.box.below a h.box.lt,own_later h.bl a,h.gf,h.lu,h.lx⟩
theorem BS.set(h:BS w r q rd ver next u l fb nm id sz bu acc s W)(i:Nat)(v:Value)(hb:Blk (W.setCell ⟨fb,i,none⟩ v) fb 113 #[nm,.int .u32 (id':Int),.int .i64 (sz':Int),jy])(a:W.ownsRow fb 3 1 jy acc'.length (acc'.map iv)):BS w r q rd ver next u l fb nm id' sz' jy acc' s (W.setCell ⟨fb,i,none⟩ v):=by
 obtain⟨j,e,o⟩:=h.rs.rd.blk;have f:Upon (λk=>k=fb) W (W.setCell ⟨fb,i,none⟩ v):=(Upon.refl (λk=>k=fb) W).set (p:=⟨fb,i,none⟩) (.inl rfl) _;exact⟨h.upon f (λk c=>.inr c) (h.rs.res.ne h.box (by decide)) (h.rs.man.ne h.box (by decide)) (e.ne h.box (by decide)),hb,dU a (aV a h.box (by decide)) _,h.gf,h.lu,h.lx⟩
theorem BS.grow(h:BS w r q rd ver next u l fb nm id sz bu acc s W)(j:W.grownBy W' bu.ownBlock)(o:W'.ownsRow fb 3 1 jy acc'.length (acc'.map iv)):BS w r q rd ver next u l fb nm id sz jy acc' s (W'.setCell ⟨fb,3,none⟩ jy):=by
 obtain⟨G,z,J⟩:=h.rs.rd.blk;have t:Upon (λk=>bu.ownBlock=some k) W W':=Upon.of_grown j (λg j=>.inl j);have i:=h.upon t (λk a=>by have v:=(h.bl.lt k a).1;rcases Nat.lt_or_eq_of_le v with f|f;exact .inl f;exact .inr f.symm) (aV h.bl h.rs.res (by decide)) (aV h.bl h.rs.man (by decide)) (aV h.bl z (by decide));have c:=h.box.upon t (aV h.bl h.box (by decide));have f:BS w r q rd ver next u l fb nm id sz bu [] s W'->BS w r q rd ver next u l fb nm id sz jy acc' s (W'.setCell ⟨fb,3,none⟩ jy):=λy=>y.set 3 jy (c.set 3 jy) o
 obtain⟨I,A,_⟩:=i.rd.blk;have D:Upon (λk=>k=fb) W' (W'.setCell ⟨fb,3,none⟩ jy):=(Upon.refl (λk=>k=fb) W').set (p:=⟨fb,3,none⟩) (.inl rfl) _;refine⟨i.upon D (λk a=>by rw[a];exact h.gf) (i.res.ne c (by decide)) (i.man.ne c (by decide)) (λk a e=>by have:=h.lu k a;omega) (λx E k a e=>by have:=h.lx x E k a;omega) (A.ne c (by decide)),c.set 3 jy,dU o (aV o c (by decide)) _,h.gf,h.lu,h.lx⟩
open Store (nv)
theorem pQ{B:Nat}{w:World}{r:Nat}{s:St}(h:Rd B w r s.1 s.2)(most:Nat)(c:most<18446744073709551616):
  Calls prog 160 #[.pointer (some ⟨r,0,none⟩),.int .u64 (most:Int)] w λe w'=>e=.returned (.int .u64 ((aK most s).1:Int))/\Rd B w' r (aK most s).2.1 (aK most s).2.2/\Only [r] w w':=by
 unfold aK
 by_cases a:s.2=0
 ·rw[if_pos a];rw[a]at h;exact OY h most c
 ·rw[if_neg a];refine(OX h a most).mono ?_;rintro e w' ⟨rfl,rfl⟩;exact⟨rfl,h,Only.refl _ _⟩
theorem PO{B:Nat}{w:World}{r:Nat}{s:St}(h:Rd B w r s.1 s.2)(n:Nat)(hn:n<=1000000):
  Calls prog 162 #[.pointer (some ⟨r,0,none⟩),.int .i64 (n:Int)] w λe w'=>∃v,e=.returned v/\ak w' w.heap.size v (gU n s).1/\Rd B w' r (gU n s).2.1 (gU n s).2.2/\Upon (λk=>k=r) w w':=by
 obtain⟨bs,k⟩:=s;unfold gU;dsimp only at h⊢
 by_cases J:k=0
 ·subst J;rw[if_pos rfl];obtain⟨a,cap,hb,D,T,c,o,x⟩:=id h;have j:=hb.cell 0;have c1:=hb.cell 1;have z0:=hb.frozen 0
  simp at j c1
  obtain⟨L,f⟩:=jl bs.length;rw[<-f]at j D T;have x3:decide ((n:Int) <0)=false:=jf (by omega)
  by_cases hlt:L<n
  ·rw[<-f,if_pos hlt];have hd:decide ((L:Int) <(n:Int))=true:=jd (by omega);have P:=jq (wG h 2 (by decide));clear h hb c o x f
   go_enter func162,ntmps162
   go_wp2_with fail
   refine P.out.mono ?_;rintro e w1 ⟨rfl,V,i⟩;have A:=jq V;have HO:=jq i;clear V i P
   go_wp2_with fail
   go_ret
   exact⟨_,rfl,World.ownsRow_nil _ _ _ _,A.out,Upon.fB HO.out (λg hg=>.inl (jE.1 hg))⟩
  ·rw[<-f,if_neg hlt];have hd:decide ((L:Int) <(n:Int))=false:=jf (by omega);obtain⟨a',x4,Y,Z⟩:=EF a L cap n (by omega) D;have h0: (bs.take n).length=n:=by rw[jT];omega
   have E:=lS a cap (bs.take n) w (by rw[fA];exact c.take n) (by rw[h0];omega);rw[h0]at E;have S:=jq E;have O:=jq hb;have H4:=jq c;have M:=jq o;have h9:=jq Z;have R:=jq Y;have z:=jq f;have N:=jq x;clear h hb c o x f E Z Y
   go_enter func162,ntmps162
   go_wp2_with fail
   refine S.out.mono ?_;rintro e w1 ⟨v,rfl,i,y⟩;have t:=O.out.below y O.out.lt;have j:=t.cell 0;have z0:=t.frozen 0
   simp at j
   rw[<-z.out]at j;have I:Upon (λq=>q=r) w1 (w1.setCell ⟨r,0,none⟩ (.slice a' (L-n) (cap-n))):=(Upon.refl (λq=>q=r) w1).set (p:=⟨r,0,none⟩) (.inl rfl) _
   have X:Rd B (w1.setCell ⟨r,0,none⟩ (.slice a' (L-n) (cap-n))) r (bs.drop n) 0:=by
    have x1:=t.set 0 (.slice a' (L-n) (cap-n));have G: (bs.drop n).length=L-n:=by rw[List.length_drop,z.out]
    refine⟨a',cap-n,by rw[G];exact x1,by rw[G];omega,by rw[G];omega,?_,λq hq=>M.out q (by rw[<-R.out];exact hq),N.out⟩
    exact((h9.out w bs z.out.symm H4.out).later y).upon I (λq hq e=>by
     have:=M.out q (by rw[<-R.out];exact hq);have:=N.out
     omega)
   have U:ak (w1.setCell ⟨r,0,none⟩ (.slice a' (L-n) (cap-n))) w.heap.size v (bs.take n):=dU i (aV i t (by decide)) _;have h1:Upon (λq=>q=r) w (w1.setCell ⟨r,0,none⟩ (.slice a' (L-n) (cap-n))):=(Upon.of_below y).trans I (λq hq=>.inl hq);have h8:=jq X;have h7:=jq U;have x0:=jq h1;clear t I X U h1 i y S
   go_wp2_with fail
   go_ret
   exact⟨v,rfl,h7.out,h8.out,x0.out⟩
 ·rw[if_neg J];obtain⟨a,cap,hb,D,T,c,o,x⟩:=id h;have c1:=hb.cell 1
  simp at c1
  have x2: (k==0)=false:=by simpa using J
  have A:=jq h;clear h hb c o
  go_enter func162,ntmps162
  go_wp2_with fail
  go_ret
  exact⟨_,rfl,World.ownsRow_nil _ _ _ _,A.out,Upon.refl _ _⟩
theorem PU{va:Option Addr}{vc:Nat}{b:List UInt8}{w:World}(a:Lies w va (b.map bv)): (convert 84 9 (.slice va b.length vc)).run prog w=.ok (sv b) w:=by
 cases va with
 |none=>
  have c:b= []:=by
   rcases a with h|⟨g,o,h,_⟩
   ·exact dM.1 h
   ·cases h
  subst c;show(convert 84 9 (.slice none 0 vc)).run prog w=.ok (.string ⟨#[]⟩) w
  kernel_rfl
 |some f=>exact run_convert_bytes_back w 84 9 5 _ vc _ underlying84 underlying5 underlying9 (λj e=>dQ a j _ (by simp[e,bv]))
def Ab(w:World)(M:dW)(e:Ending)(w':World):Prop:=Below w.heap.size w w'/\∃(a:Option Addr) (c:Nat) (l:List FR),e=.returned (.tuple #[.agg #[.int .u64 (M.ver:Int),.int .u32 (M.next:Int),.slice a l.length c],.int .i64 M.err])/\l.map FR.f=M.fs/\bV w' a l/\(∀b,Mem.blk a=some b->w.heap.size<=b/\b<w'.heap.size)/\∀x∈l,∀b,Mem.blk x.a=some b->w.heap.size<=b/\b<w'.heap.size
theorem RS.gives{w W:World}{r q rd ver next:Nat}{a:Option Addr}{n c:Nat}{l:List FR}{s:St}{F:List af×St}(h:RS w r q rd ver next (.slice a n c) l s W)(hF: (l.map FR.f,s)=F):
  Ab w ⟨ver,next,F.1,kr F.2.1 F.2.2⟩ (.returned (.tuple #[.agg #[.int .u64 (ver:Int),.int .u32 (next:Int),.slice a n c],.int .i64 (kr s.1 s.2)])) (((W.setCell ⟨r,0,none⟩ (.int .u64 (ver:Int))).setCell ⟨r,1,none⟩ (.int .u32 (next:Int))).setCell ⟨r,2,none⟩ (.slice a n c)):=by
 subst hF;have k:=aV h.row h.res (by decide);have G:=dU (dU (dU h.row k (p:=⟨r,0,none⟩) (.int .u64 (ver:Int))) k (p:=⟨r,1,none⟩) (.int .u32 (next:Int))) k (p:=⟨r,2,none⟩) (.slice a n c);obtain⟨I,c2,e,_,y,D,_⟩:=own_shape G;cases e;refine⟨kU h.below h.gr _ _ _,a,c,l,rfl,rfl,⟨y,λx i=>?_⟩,D,λx i b hb=>?_⟩
 ·have o:=aV (h.blocks x i) h.res (by decide);obtain⟨t,v,j,A,z,_,_⟩:=own_shape (dU (dU (dU (h.blocks x i) o (p:=⟨r,0,none⟩) (.int .u64 (ver:Int))) o (p:=⟨r,1,none⟩) (.int .u32 (next:Int))) o (p:=⟨r,2,none⟩) (.slice a l.length c));cases j;exact⟨z,A⟩
 ·obtain⟨t,v,j,_,_,E,_⟩:=own_shape (h.blocks x i);cases j;have:=E b hb
  simpa using this
attribute [local go_sem] Oper.semAt_some
theorem qY(a:Option Addr)(cap:Nat)(bs:List UInt8)(w:World)(hc:bs.length<=cap)(hn:bs.length<=100000)(hL:Lies w a (bs.map bv))(ha:∀k,Mem.blk a=some k->k<w.heap.size):
  Calls prog 125 #[.slice a bs.length cap] w (Ab w (bK bs)):=by
 obtain⟨s0,f1⟩:∃s:St,s=(bs,0):=⟨_,rfl⟩;obtain⟨s1,f2⟩:=jl ((aK 18446744073709551615 s0).2);obtain⟨ver,g7⟩:=jl ((aK 18446744073709551615 s0).1);obtain⟨s2,f3⟩:=jl ((aK 4294967295 s1).2);obtain⟨next,b4⟩:=jl ((aK 4294967295 s1).1);obtain⟨s3,f4⟩:=jl ((aK 2048 s2).2);obtain⟨cnt,b1⟩:=jl ((aK 2048 s2).1);obtain⟨F,hF⟩:=jl (gW cnt s3 [])
 have hM:bK bs=⟨ver,next,F.1,kr F.2.1 F.2.2⟩:=by
  rw[hF,b1,f4,b4,f3,g7,f2,f1]
  rfl
 rw[hM];have s5:next<=4294967295:=by rw[b4];exact(jN _ _).1
 have l2:cnt<=2048:=by rw[b1];exact(jN _ _).1
 have s6:IntKind.u32.wrap (next:Int)=(next:Int):=by rw[IntKind.wrap_u32];omega
 obtain⟨W0,a5⟩:=jl (w.alloc (.cells #[.int .u64 0,.int .u32 0,.slice none 0 0] 108));obtain⟨r,hr⟩:=jl w.heap.size;have a0:Below w.heap.size w W0:=by rw[a5];exact(Below.refl _ w).alloc jn _
 have z:Blk W0 r 108 #[.int .u64 0,.int .u32 0,.slice none 0 0]:=by rw[a5,hr];exact Blk.new w _ _
 have e7:=kg w.heap.size a cap bs W0 hc (by omega) (hL.later a0) ha a0.size;obtain⟨n,y7⟩:=jl bs.length;rw[<-y7]at e7⊢;have i9:=jq e7;have z4:=jq a0;have z9:=jq z;have o9:=jq f1;have p0:=jq f2;have HV:=jq g7;have p1:=jq f3;have HX:=jq b4;have p2:=jq f4;have n8:=jq b1;have o0:=jq hF;have o5:=jq hr;clear hc hn hL ha e7 a0 z f1 f2 g7 f3 b4 f4 b1 hF hM y7
 go_enter func125,ntmps125
 go_wp2_with fail
 rw[<-a5,<-hr];clear a5 hr;refine i9.out.mono ?_;rintro e w1 ⟨rd,rfl,k3,m5,c5⟩
 have i5:Hid (Calls prog 160 #[.pointer (some ⟨rd,0,none⟩),.int .u64 18446744073709551615] w1 λe w'=>e=.returned (.int .u64 (ver:Int))/\Rd w.heap.size w' rd s1.1 s1.2/\Only [rd] w1 w'):=jq (by
  have h0:Rd w.heap.size w1 rd s0.1 s0.2:=by rw[o9.out];exact k3
  have:=pQ h0 18446744073709551615 (by decide);rw[<-HV.out,<-p0.out]at this;exact this)
 have m6:=z9.out.below c5 z9.out.lt;have c3:=jq m6;have i2:=jq (z4.out.trans (c5.mono z4.out.size));have j2:=jq m5;clear k3 m5 c5 m6 i9
 go_wp2_with fail
 refine i5.out.mono ?_;rintro e w2 ⟨rfl,k7,j9⟩
 have i6:Hid (Calls prog 160 #[.pointer (some ⟨rd,0,none⟩),.int .u64 4294967295] w2 λe w'=>e=.returned (.int .u64 (next:Int))/\Rd w.heap.size w' rd s2.1 s2.2/\Only [rd] w2 w'):=jq (by
  have:=pQ k7 4294967295 (by decide);rw[<-HX.out,<-p1.out]at this;exact this)
 have o4:=jq j9;clear k7 j9 i5
 go_wp2_with fail
 refine i6.out.mono ?_;rintro e w3 ⟨rfl,c9,k0⟩;obtain⟨W4,a7⟩:=jl (w3.alloc (.cells #[.int .u64 (ver:Int),.int .u32 (next:Int),.slice none 0 0] 108));obtain⟨q,hq⟩:=jl w3.heap.size;have a1:Below w3.heap.size w3 W4:=by rw[a7];exact(Below.refl _ w3).alloc jn _
 have m4:Blk W4 q 108 #[.int .u64 (ver:Int),.int .u32 (next:Int),.slice none 0 0]:=by rw[a7,hq];exact Blk.new w3 _ _
 obtain⟨r3,q6,q7⟩:=c9.blk;have L:Upon (λk=>k=rd) w1 w3:=(Upon.fB o4.out (λg J=>.inl (jE.1 J))).trans (Upon.fB k0 (λg J=>.inl (jE.1 J))) (λ_ hk=>.inl hk)
 have m7:r≠rd:=λe=>by
  have o:=c3.out.lt;have h2:=z4.out.size;have h3:=z9.out.lt;have h4:=j2.out
  omega
 have b7:=c3.out.upon L m7;have a3:Below w.heap.size w w3:=i2.out.trans (L.below i2.out.size (λk hk=>by have:=j2.out;have:=z4.out.size;omega));have e9:RS w r q rd ver next (.slice none 0 0) [] s2 W4:=⟨a3.trans (a1.mono a3.size),b7.below a1 b7.lt,m4,World.ownsRow_nil _ _ _ _,λx hx=>(by cases hx),c9.later a1,by rw[hq];exact a3.size,by rw[o5.out];exact aj _,λe=>by have:=b7.lt;omega⟩;have j3:=jq e9
 have i7:Hid (Calls prog 160 #[.pointer (some ⟨rd,0,none⟩),.int .u64 2048] W4 λe w'=>e=.returned (.int .u64 (cnt:Int))/\Rd w.heap.size w' rd s3.1 s3.2/\Only [rd] W4 w'):=jq (by
  have:=pQ e9.rd 2048 (by decide);rw[<-n8.out,<-p2.out]at this;exact this)
 clear c9 k0 i6 a1 m4 q6 q7 L m7 b7 a3 e9 z9 c3
 go_wp2_with fail
 rw[<-a7,<-hq];clear a7 hq;refine i7.out.mono ?_;rintro e w5 ⟨rfl,k8,k1⟩;have o6:=jq (j3.out.read (s':=s3) k1 k8);have n9:Hid (gW cnt s3 (([]:List FR).map FR.f)=F):=jq o0.out.symm;clear k8 k1 i7 j3
 go_wp2_with fail
 go_loopw[6] (λn6 wr=>∃(k:Nat) (u:Value) (l:List FR) (s:St),n6=.int .u64 (k:Int)/\k<=2048/\l.length+k<=2048/\Hid (RS w r q rd ver next u l s wr)/\Hid (gW k s (l.map FR.f)=F)) (λn6 _=>(intOf n6).toNat)
 case atStart=>exact⟨cnt,_,[],s3,rfl,l2,by simpa using l2,o6,n9⟩
 case round=>
  obtain⟨k,u,l,s,rfl,hk,r8,h,a4⟩:=hrel
  by_cases x2:0<k/\s.2=0
  ·have l7:decide (0<k)=true:=jd x2.1;have z6:Hid (Calls prog 161 #[.pointer (some ⟨rd,0,none⟩)] wr λe w'=>e=.returned (.int .i64 0)/\w'=wr):=jq (by have:=wH h.out.rd;rw[x2.2]at this;exact this);obtain⟨ln,b2⟩:=jl ((aK 32 s).1);obtain⟨t1,f7⟩:=jl ((aK 32 s).2);obtain⟨x3,b5⟩:=jl ((gU ln t1).1);obtain⟨t2,f8⟩:=jl ((gU ln t1).2);obtain⟨id,hid⟩:=jl ((aK 4294967295 t2).1);obtain⟨t3,f9⟩:=jl ((aK 4294967295 t2).2);obtain⟨sz,b8⟩:=jl ((aK 7340032 t3).1);obtain⟨t4,g4⟩:=jl ((aK 7340032 t3).2);obtain⟨BL,c6⟩:=jl (gV (aA.many sz) t4 [])
   have l6:gH s=(⟨x3,id,sz,BL.1⟩,BL.2):=by
    unfold gH uo;dsimp only;rw[<-b2,<-f7,<-b5,<-f8,<-hid,<-f9,<-b8,<-g4,<-c6]
   have r9:ln<=32:=by rw[b2];exact(jN _ _).1
   have r5:id<=4294967295:=by rw[hid];exact(jN _ _).1
   have s8:sz<=7340032:=by rw[b8];exact(jN _ _).1
   have q5:x3.length<=32:=by rw[b5];have:=(Fq ln t1).1;omega
   have t5:IntKind.i64.wrap (ln:Int)=(ln:Int):=by rw[IntKind.wrap_i64];omega
   have t7:IntKind.u32.wrap (id:Int)=(id:Int):=by rw[IntKind.wrap_u32];omega
   have t8:IntKind.i64.wrap (sz:Int)=(sz:Int):=by rw[IntKind.wrap_i64];omega
   have i8:Hid (Calls prog 160 #[.pointer (some ⟨rd,0,none⟩),.int .u64 32] wr λe w'=>e=.returned (.int .u64 (ln:Int))/\Rd w.heap.size w' rd t1.1 t1.2/\Only [rd] wr w'):=jq (by
    have:=pQ h.out.rd 32 (by decide);rw[<-b2,<-f7]at this;exact this)
   have o2:=jq b5;have p4:=jq f8;have o1:=jq hid;have p5:=jq f9;have p3:=jq b8;have p6:=jq g4;have n2:=jq c6;have z7:=jq l6;have x1:=jq x2;clear b2 f7 b5 f8 hid f9 b8 g4 c6 l6 x2
   go_wp2_with fail
   refine z6.out.mono ?_;rintro e w6 ⟨rfl,rfl⟩
   go_wp2_with fail
   refine i8.out.mono ?_;rintro e w7 ⟨rfl,k9,k2⟩;have f0:=h.out.read (s':=t1) k2 k9;have i4:=jq (PO (s:=t1) f0.rd ln (by omega));have o7:=jq f0;clear k9 k2 f0 i8
   go_wp2_with fail
   refine i4.out.mono ?_;rintro e w8 ⟨v8,rfl,c7,d0,l0⟩;rw[<-o2.out]at c7;rw[<-p4.out]at d0;obtain⟨a8,c8,rfl,_,j5,_,_⟩:=own_shape c7;have e1:=PU (vc:=c8) j5;obtain⟨sb,f5⟩:∃sb:ByteArray,sv x3=.string sb:=⟨_,rfl⟩;rw[f5]at e1;have o8:=jq (o7.out.uw (s':=t2) l0 d0);have j4:=jq f5;obtain⟨nl,y7⟩:=jl x3.length;rw[<-y7]at e1 q5⊢;clear c7 d0 l0 j5 f5 y7 i4
   go_wp2_with fail
   obtain⟨W9,d3⟩:=jl (w8.alloc (.cells #[.string sb,.int .u32 0,.int .i64 0,.slice none 0 0] 113));obtain⟨fb,e2⟩:=jl w8.heap.size;have d9:BS w r q rd ver next u l fb (.string sb) 0 0 (.slice none 0 0) [] t2 W9:=by rw[d3,e2];exact BS.start o8.out (.string sb) 0 0
   rw[<-d3,<-e2]
   have j0:Hid (Calls prog 160 #[.pointer (some ⟨rd,0,none⟩),.int .u64 4294967295] W9 λe w'=>e=.returned (.int .u64 (id:Int))/\Rd w.heap.size w' rd t3.1 t3.2/\Only [rd] W9 w'):=jq (by
    have:=pQ d9.rs.rd 4294967295 (by decide);rw[<-o1.out,<-p5.out]at this;exact this)
   have n5:=jq d9;clear d3 e2 d9 e1;refine j0.out.mono ?_;rintro e m9 ⟨rfl,k4,j6⟩;have d6:=n5.out.read (s':=t3) j6 k4
   have j1:Hid (Calls prog 160 #[.pointer (some ⟨rd,0,none⟩),.int .u64 7340032] m9 λe w'=>e=.returned (.int .u64 (sz:Int))/\Rd w.heap.size w' rd t4.1 t4.2/\Only [rd] m9 w'):=jq (by
    have:=pQ d6.rs.rd 7340032 (by decide);rw[<-p3.out,<-p6.out]at this;exact this)
   have n3:=jq d6;clear k4 j6 d6 j0
   go_wp2_with fail
   refine j1.out.mono ?_;rintro e q9 ⟨rfl,k5,j7⟩;have h5:=n3.out.read (s':=t4) j7 k5;have z1:=h5.box.frozen 1;have z2:=h5.box.frozen 2;have l3:=h5.box.cell 1;have l4:=h5.box.cell 2
   simp at l3 l4
   have a9:=h5.set (id':=id) (sz':=0) (jy:=.slice none 0 0) (acc':=[]) 1 (.int .u32 (id:Int)) (h5.box.set 1 _) h5.bl;have d7:=a9.set (id':=id) (sz':=sz) (jy:=.slice none 0 0) (acc':=[]) 2 (.int .i64 (sz:Int)) (a9.box.set 2 _) a9.bl;have l5:=d7.box.cell 2
   simp at l5
   have i3:=jq d7;obtain⟨A,b3⟩:=jl (aA.many sz);have s4:A<=70000:=by rw[b3];unfold aA.many;split <;> omega
   obtain⟨p7,a6⟩:=jl ((q9.setCell ⟨fb,1,none⟩ (.int .u32 (id:Int))).setCell ⟨fb,2,none⟩ (.int .i64 (sz:Int)));rw[<-a6]at i3;have z8:=jq (yE sz (by omega) p7);rw[<-b3]at z8;have n0:Hid (gV A t4 []=BL):=jq (by rw[b3];exact n2.out.symm);rw[a6]at z8;clear k5 j7 h5 a9 d7 j1 b3
   go_wp2_with fail
   refine z8.out.mono ?_;rw[<-a6];rintro e u3 ⟨rfl,rfl⟩;clear l5 l3 l4 z1 z2 a6 z8
   go_wp2_with fail
   go_loopw[45] (λi r0=>∃(j:Nat) (bu:Value) (acc:List Nat) (t:St),i=.int .i64 (j:Int)/\j<=A/\acc.length<=j/\Hid (BS w r q rd ver next u l fb (.string sb) id sz bu acc t r0)/\Hid (gV (A-j) t acc=BL)) (λi _=>A-(intOf i).toNat)
   case atStart=>exact⟨0,_,[],t4,rfl,aC _,aC _,i3,n0⟩
   case round=>
    obtain⟨j,bu,acc,N,rfl,hj,r4,c,a2⟩:=hrel
    by_cases hlt:j<A
    ·have q0:decide ((j:Int) <(A:Int))=true:=jd (by omega);have z5:=jq (wH c.out.rs.rd)
     by_cases Y:N.2=0
     ·rw[Y]at z5;obtain⟨ba,P,rfl,x8,_,_,_⟩:=own_shape c.out.bl;obtain⟨O,b9⟩:=jl ((aK 65536 N).1);obtain⟨t6,g5⟩:=jl ((aK 65536 N).2);have t0:O<=65536:=by rw[b9];exact(jN _ _).1
      have t9:IntKind.i64.wrap (O:Int)=(O:Int):=by rw[IntKind.wrap_i64];omega
      have l1:gV (A-(j+1)) t6 (acc++ [O])=BL:=by
       have o:=a2.out;rw[show A-j=(A-(j+1))+1 by omega]at o;unfold gV at o;rw[if_pos Y,<-b9,<-g5]at o;exact o
      have b0:=c.out.later (Below.refl _ wr).drew
      have o3:Hid (Calls prog 160 #[.pointer (some ⟨rd,0,none⟩),.int .u64 65536] wr.drew λe w'=>e=.returned (.int .u64 (O:Int))/\Rd w.heap.size w' rd t6.1 t6.2/\Only [rd] wr.drew w'):=jq (by
       have:=pQ b0.rs.rd 65536 (by decide);rw[<-b9,<-g5]at this;exact this)
      have q1:wr.drew.cell? ⟨fb,3,none⟩=some (.slice ba acc.length P):=b0.box.cell 3;have n7:=jq b0;have n1:=jq l1;obtain⟨al,R⟩:=jl acc.length;rw[<-R]at q1;have i1:=jq R;clear l1 b9 g5 b0 c a2 x8 R
      go_wp2_with fail
      refine z5.out.mono ?_;rintro e wr ⟨rfl,rfl⟩
      go_wp2_with fail
      go_region_law ((first|(go_simp;go_at_call 160;refine o3.out.mono ?_;rintro e c0 ⟨rfl,k6,j8⟩;have S:=n7.out.read (s':=t6) j8 k6;have e4:=S.box.cell 3;simp only[jt,ja,jb]at e4;rw[<-i1.out]at e4;obtain⟨u2,PV,b6,e8,e3⟩:=PN c0 111 _ acc S.bl O (by omega) (kF S.box.lt);have r6: (c0.alloc (.cells #[.int .i64 (O:Int)] 3)).cell? ⟨fb,3,none⟩=some (.slice ba al P):=(((Below.refl _ c0).alloc jn _).cell (p:=⟨fb,3,none⟩) S.box.lt).trans e4;have m8:Upon (λy=>(Value.slice ba acc.length P).ownBlock=some y) c0 PV:=Upon.of_grown e3 (λg J=>.inl J);have e0:=S.box.upon m8 (aV S.bl S.box (by decide));have l8:=e0.cell 3;have u0:=e0.frozen 3;simp only[jt,ja,jb]at l8;rw[<-i1.out]at l8 b6;unfold iv at b6;obtain⟨r1,r2,rfl,_,_,_,_⟩:=own_shape e8;have d8:=S.grow (acc':=acc++ [O]) e3 e8;obtain⟨u1,m3⟩:=jl ((acc++ [O]).length);rw[<-m3]at b6 d8;have n4:=jq d8;clear d8 S e8 e3 m8 e0 k6 j8 m3;dsimp only)|(refine vD rfl (.tmp 51) (.tmp 55) 111 111 rfl _ _ rfl rfl b6 ?_)))
      all_goals go_wp2_with fail
      all_goals exact⟨⟨j+1,_,acc++ [O],t6,by simp,by omega,by rw[jL,List.length_singleton];omega,n4,n1⟩,by simp[intOf];omega⟩
     ·have h7: (acc,N)=BL:=by
       have o:=a2.out;obtain⟨d,hd⟩:∃d,A-j=d+1:=⟨A-j-1,by omega⟩;rw[hd]at o;unfold gV at o;rw[if_neg Y]at o;exact o
      obtain⟨te,g6⟩:=jl N.2;have s9: (te==0)=false:=by rw[g6];simpa using Y
      rw[<-g6]at z5;clear g6 Y
      go_wp2_with fail
      refine z5.out.mono ?_;rintro e wr ⟨rfl,rfl⟩;obtain⟨ba,P,rfl,x8,d4,d5,_⟩:=own_shape c.out.bl;obtain⟨I,X⟩:∃x:FR,x=⟨⟨x3,id,sz,acc⟩,ba,P⟩:=⟨_,rfl⟩;have y9:I.vs= [.string sb,.int .u32 (id:Int),.int .i64 (sz:Int),.slice ba acc.length P]:=by rw[X,<-j4.out];rfl
      have z3:I.f=(gH s).1:=by rw[z7.out,X,<-h7]
      obtain⟨q8,mX,V,h9,U⟩:=Fx wr 106 u l c.out.rs.row I (by omega) c.out.rs.below.size;obtain⟨p8,p9,rfl,_,_,_,_⟩:=own_shape h9
      have x0:=c.out.rs.tF (l':=l++ [I]) U h9 (λy M=>by
       rcases List.mem_append.1 M with M|M
       ·exact .inl M
       ·rw[jE.1 M];refine .inr ?_;rw[X];exact bH c.out.bl c.out.gf)
      have x9:gW (k-1) N ((l++ [I]).map FR.f)=F:=by
       have o:=a4.out;obtain⟨k',h8⟩:∃k',k=k'+1:=⟨k-1,by have:=x1.out.1;omega⟩;rw[h8]at o;unfold gW at o;rw[if_pos x1.out.2]at o;have h2:N=(gH s).2:=by rw[z7.out,<-h7]
       rw[aZ,List.map_singleton,z3,h2,h8];exact o
      have g0:=c.out.box.cell 0;have g1:=c.out.box.cell 1;have g2:=c.out.box.cell 2;have g3:=c.out.box.cell 3;have m2:=c.out.rs.man.cell 2
      have q4:mX.frozen? ⟨q,2,none⟩=false:=by
       have L:Upon (λy=>u.ownBlock=some y) wr mX:=Upon.of_grown U (λg J=>.inl J);exact(c.out.rs.man.upon L (aV c.out.rs.row c.out.rs.man (by decide))).frozen 2
      have q3:mX.cell? ⟨q,2,none⟩=some u:=by
       have L:Upon (λy=>u.ownBlock=some y) wr mX:=Upon.of_grown U (λg J=>.inl J);exact(c.out.rs.man.upon L (aV c.out.rs.row c.out.rs.man (by decide))).cell 2
      simp at g0 g1 g2 g3 m2
      rw[y9]at V;obtain⟨ll,y6⟩:=jl ((l++ [I]).length);rw[<-y6]at V x0;have c4:=jq x0;have x5:=jq x9;have e5:k-1+1=k:=by have:=x1.out.1;omega
      have y5: (l++ [I]).length+(k-1)<=2048:=by rw[jL,List.length_singleton];omega
      have x6:=jq y5;obtain⟨Z,y4⟩:=jl (k-1);rw[<-y4]at x5 x6;have l9: (k:Int)=(Z:Int)+1:=by omega
      have q2:Z<k:=by omega
      have e6:Z<=2048:=by omega
      obtain⟨al,R⟩:=jl acc.length;rw[<-R]at V g3;clear d4 d5 y9 z3 h9 U x0 x9 h7 c y5 e5 y4 X x8 R y6
      go_wp2_with (first|(at_builtin;refine Lib.wpList_append_run _ rfl _ _ _ _ rfl _ _ rfl rfl _ _ V ?_))
      exact⟨⟨Z,_,_,_,by simp,e6,x6.out,c4,x5⟩,by simp[intOf];omega⟩
    ·obtain rfl:A=j:=by omega
     have q0:decide ((A:Int) <(A:Int))=false:=jf (by omega)
     have h7: (acc,N)=BL:=by
      have o:=a2.out;rw[Nat.sub_self]at o;exact o
     obtain⟨ba,P,rfl,x8,d4,d5,_⟩:=own_shape c.out.bl;obtain⟨I,X⟩:∃x:FR,x=⟨⟨x3,id,sz,acc⟩,ba,P⟩:=⟨_,rfl⟩;have y9:I.vs= [.string sb,.int .u32 (id:Int),.int .i64 (sz:Int),.slice ba acc.length P]:=by rw[X,<-j4.out];rfl
     have z3:I.f=(gH s).1:=by rw[z7.out,X,<-h7]
     obtain⟨q8,mX,V,h9,U⟩:=Fx wr 106 u l c.out.rs.row I (by omega) c.out.rs.below.size;obtain⟨p8,p9,rfl,_,_,_,_⟩:=own_shape h9
     have x0:=c.out.rs.tF (l':=l++ [I]) U h9 (λy M=>by
      rcases List.mem_append.1 M with M|M
      ·exact .inl M
      ·rw[jE.1 M];refine .inr ?_;rw[X];exact bH c.out.bl c.out.gf)
     have x9:gW (k-1) N ((l++ [I]).map FR.f)=F:=by
      have o:=a4.out;obtain⟨k',h8⟩:∃k',k=k'+1:=⟨k-1,by have:=x1.out.1;omega⟩;rw[h8]at o;unfold gW at o;rw[if_pos x1.out.2]at o;have h2:N=(gH s).2:=by rw[z7.out,<-h7]
      rw[aZ,List.map_singleton,z3,h2,h8];exact o
     have g0:=c.out.box.cell 0;have g1:=c.out.box.cell 1;have g2:=c.out.box.cell 2;have g3:=c.out.box.cell 3;have m2:=c.out.rs.man.cell 2
     have q4:mX.frozen? ⟨q,2,none⟩=false:=by
      have L:Upon (λy=>u.ownBlock=some y) wr mX:=Upon.of_grown U (λg J=>.inl J);exact(c.out.rs.man.upon L (aV c.out.rs.row c.out.rs.man (by decide))).frozen 2
     have q3:mX.cell? ⟨q,2,none⟩=some u:=by
      have L:Upon (λy=>u.ownBlock=some y) wr mX:=Upon.of_grown U (λg J=>.inl J);exact(c.out.rs.man.upon L (aV c.out.rs.row c.out.rs.man (by decide))).cell 2
     simp at g0 g1 g2 g3 m2
     rw[y9]at V;obtain⟨ll,y6⟩:=jl ((l++ [I]).length);rw[<-y6]at V x0;have c4:=jq x0;have x5:=jq x9;have e5:k-1+1=k:=by have:=x1.out.1;omega
     have y5: (l++ [I]).length+(k-1)<=2048:=by rw[jL,List.length_singleton];omega
     have x6:=jq y5;obtain⟨Z,y4⟩:=jl (k-1);rw[<-y4]at x5 x6;have l9: (k:Int)=(Z:Int)+1:=by omega
     have q2:Z<k:=by omega
     have e6:Z<=2048:=by omega
     obtain⟨al,R⟩:=jl acc.length;rw[<-R]at V g3;clear d4 d5 y9 z3 h9 U x0 x9 h7 c y5 e5 y4 X x8 R y6
     go_wp2_with (first|(at_builtin;refine Lib.wpList_append_run _ rfl _ _ _ _ rfl _ _ rfl rfl _ _ V ?_))
     exact⟨⟨Z,_,_,_,by simp,e6,x6.out,c4,x5⟩,by simp[intOf];omega⟩
  ·by_cases l7:k=0
   ·subst l7;have x7: (l.map FR.f,s)=F:=a4.out;have l9:decide (0<0)=false:=rfl
    go_wp2_with fail
    have z:=h.out.res;have z0:=z.frozen 0;have z1:=z.frozen 1;have z2:=z.frozen 2;obtain⟨D,E,rfl,_,_,_,_⟩:=own_shape h.out.row;obtain⟨G,y8⟩:=jl l.length;rw[<-y8]at h;have m0:=h.out.man.cell 0;have m1:=h.out.man.cell 1;have m2:=h.out.man.cell 2;have x4:=jq (ED (h.out.later (Below.refl _ wr).drew).rd);have HG:=jq ((h.out.later (Below.refl _ wr).drew).gives (F:=F));have y0:=lN h.out.res (.int .u64 (ver:Int)) (.int .u32 (next:Int)) (.slice D G E);have T:=(((h.out.later (Below.refl _ wr).drew).man.far (p:=⟨r,0,none⟩) h.out.ne (.int .u64 (ver:Int))).far (p:=⟨r,1,none⟩) h.out.ne (.int .u32 (next:Int))).far (p:=⟨r,2,none⟩) h.out.ne (.slice D G E);have d1: (λw':World=>w'.cell? ⟨q,0,none⟩=some (.int .u64 (ver:Int))/\w'.cell? ⟨q,1,none⟩=some (.int .u32 (next:Int))/\w'.cell? ⟨q,2,none⟩=some (.slice D G E)) wr.drew:=⟨m0,m1,m2⟩;have d2: (λw':World=>w'.cell? ⟨q,0,none⟩=some (.int .u64 (ver:Int))/\w'.cell? ⟨q,1,none⟩=some (.int .u32 (next:Int))/\w'.cell? ⟨q,2,none⟩=some (.slice D G E)) (((wr.drew.setCell ⟨r,0,none⟩ (.int .u64 (ver:Int))).setCell ⟨r,1,none⟩ (.int .u32 (next:Int))).setCell ⟨r,2,none⟩ (.slice D G E)):=⟨T.cell 0,T.cell 1,T.cell 2⟩;obtain⟨ee,h6⟩:=jl (kr s.1 s.2);rw[<-h6]at x4;have c1:=jq h6;have g8:=z.cell 0;have g9:=z.cell 1;have i0:=z.cell 2;simp only[jt,ja,jb]at g8 g9 i0;have c2:=jq x7;clear z T y8 h6 x7
    go_wp2_with fail
    go_region_held3 (λw'=>w'.cell? ⟨q,0,none⟩=some (.int .u64 (ver:Int))/\w'.cell? ⟨q,1,none⟩=some (.int .u32 (next:Int))/\w'.cell? ⟨q,2,none⟩=some (.slice D G E)) (first|exact d1|exact d2) (first|(go_at_call 163;refine x4.out.mono ?_;rintro e w6 ⟨rfl,rfl⟩;dsimp only))
    obtain⟨y0,y1,y2⟩:=y0;have y3:=HG.out c2.out;rw[<-c1.out]at y3
    go_wp2_with fail
    refine bodyPost_ret (v:=.tuple #[.agg #[.int .u64 (ver:Int),.int .u32 (next:Int),.slice D G E],.int .i64 ee]) (by simp[results,Tryz.f125,go_sem,y0,y1,y2]) rfl ?_;exact y3
   ·have Y:s.2≠0:=λe=>x2 ⟨by omega,e⟩
    have r7:decide (0<k)=true:=jd (by omega)
    have x7: (l.map FR.f,s)=F:=by
     have o:=a4.out;obtain⟨k',h8⟩:∃k',k=k'+1:=⟨k-1,by omega⟩;rw[h8]at o;unfold gW at o;rw[if_neg Y]at o;exact o
    have z6:=jq (wH h.out.rd);obtain⟨se,f6⟩:=jl s.2;have s7: (se==0)=false:=by rw[f6];simpa using Y
    rw[<-f6]at z6;clear f6 Y x2
    go_wp2_with fail
    refine z6.out.mono ?_;rintro e wr ⟨rfl,rfl⟩
    go_wp2_with fail
    have z:=h.out.res;have z0:=z.frozen 0;have z1:=z.frozen 1;have z2:=z.frozen 2;obtain⟨D,E,rfl,_,_,_,_⟩:=own_shape h.out.row;obtain⟨G,y8⟩:=jl l.length;rw[<-y8]at h;have m0:=h.out.man.cell 0;have m1:=h.out.man.cell 1;have m2:=h.out.man.cell 2;have x4:=jq (ED (h.out.later (Below.refl _ wr).drew).rd);have HG:=jq ((h.out.later (Below.refl _ wr).drew).gives (F:=F));have y0:=lN h.out.res (.int .u64 (ver:Int)) (.int .u32 (next:Int)) (.slice D G E);have T:=(((h.out.later (Below.refl _ wr).drew).man.far (p:=⟨r,0,none⟩) h.out.ne (.int .u64 (ver:Int))).far (p:=⟨r,1,none⟩) h.out.ne (.int .u32 (next:Int))).far (p:=⟨r,2,none⟩) h.out.ne (.slice D G E);have d1: (λw':World=>w'.cell? ⟨q,0,none⟩=some (.int .u64 (ver:Int))/\w'.cell? ⟨q,1,none⟩=some (.int .u32 (next:Int))/\w'.cell? ⟨q,2,none⟩=some (.slice D G E)) wr.drew:=⟨m0,m1,m2⟩;have d2: (λw':World=>w'.cell? ⟨q,0,none⟩=some (.int .u64 (ver:Int))/\w'.cell? ⟨q,1,none⟩=some (.int .u32 (next:Int))/\w'.cell? ⟨q,2,none⟩=some (.slice D G E)) (((wr.drew.setCell ⟨r,0,none⟩ (.int .u64 (ver:Int))).setCell ⟨r,1,none⟩ (.int .u32 (next:Int))).setCell ⟨r,2,none⟩ (.slice D G E)):=⟨T.cell 0,T.cell 1,T.cell 2⟩;obtain⟨ee,h6⟩:=jl (kr s.1 s.2);rw[<-h6]at x4;have c1:=jq h6;have g8:=z.cell 0;have g9:=z.cell 1;have i0:=z.cell 2;simp only[jt,ja,jb]at g8 g9 i0;have c2:=jq x7;clear z T y8 h6 x7
    go_wp2_with fail
    go_region_held3 (λw'=>w'.cell? ⟨q,0,none⟩=some (.int .u64 (ver:Int))/\w'.cell? ⟨q,1,none⟩=some (.int .u32 (next:Int))/\w'.cell? ⟨q,2,none⟩=some (.slice D G E)) (first|exact d1|exact d2) (first|(go_at_call 163;refine x4.out.mono ?_;rintro e w6 ⟨rfl,rfl⟩;dsimp only))
    obtain⟨y0,y1,y2⟩:=y0;have y3:=HG.out c2.out;rw[<-c1.out]at y3
    go_wp2_with fail
    refine bodyPost_ret (v:=.tuple #[.agg #[.int .u64 (ver:Int),.int .u32 (next:Int),.slice D G E],.int .i64 ee]) (by simp[results,Tryz.f125,go_sem,y0,y1,y2]) rfl ?_;exact y3
end Read
namespace Read
open Go.RowKit Go.Deep Mem Crc aA Full
def gy(w w':World)(v:Value)(ver next:Nat)(fs:List af):Prop:=∃a c l,v=.agg #[.int .u64 (ver:Int),.int .u32 (next:Int),.slice a (l:List FR).length c]/\l.map FR.f=fs/\bV w' a l/\(∀b,Mem.blk a=some b->w.heap.size<=b/\b<w'.heap.size)/\∀x∈l,∀b,Mem.blk x.a=some b->w.heap.size<=b/\b<w'.heap.size
def mY:Value:=.agg #[.int .u64 0,.int .u32 0,.slice none 0 0]
theorem PX(w w':World):gy w w' mY 0 0 []:=⟨none,0,[],rfl,rfl,⟨.inl rfl,λx a=>(List.not_mem_nil a).elim⟩,λb h=>(by cases h),λx a=>(List.not_mem_nil a).elim⟩
theorem gy.later{w w1 w2:World}{v:Value}{ver next:Nat}{fs:List af}(h:gy w w1 v ver next fs)(e:Below w1.heap.size w1 w2):gy w w2 v ver next fs:=by
 obtain⟨a,c,l,k,o,t,f,i⟩:=h;exact⟨a,c,l,k,o,t.later e,λb hb=>⟨(f b hb).1,aD (f b hb).2 e.size⟩,λx j b hb=>⟨(i x j b hb).1,aD (i x j b hb).2 e.size⟩⟩
theorem gy.base{w0 w w':World}{v:Value}{ver next:Nat}{fs:List af}(h:gy w w' v ver next fs)(i:w0.heap.size<=w.heap.size):gy w0 w' v ver next fs:=by
 obtain⟨a,c,l,k,o,t,e,f⟩:=h;exact⟨a,c,l,k,o,t,λb hb=>⟨ax i (e b hb).1,(e b hb).2⟩,λx j b hb=>⟨ax i (f x j b hb).1,(f x j b hb).2⟩⟩
def PY(w:World)(o:Option (Nat×Nat×List af))(e:Ending)(w':World):Prop:=
 match o with
 |none=>e=.returned (.tuple #[mY,.int .i64 5])
 |some p=>∃v,e=.returned (.tuple #[v,.int .i64 0])/\gy w w' v p.1 p.2.1 p.2.2
theorem gy.set{o W:World}{v:Value}{ver next:Nat}{fs:List af}(h:gy o W v ver next fs){p:Addr}(I:p.block<o.heap.size)(x:Value):gy o (W.setCell p x) v ver next fs:=by
 obtain⟨a,c,l,E,G,i,t,z⟩:=h;have D:Upon (λk=>k=p.block) W (W.setCell p x):=(Upon.refl (λk=>k=p.block) W).set (.inl rfl) _;have A: (W.setCell p x).heap.size=W.heap.size:=by simp
 refine⟨a,c,l,E,G,⟨i.row.upon D (λg j e=>?_),λy f=>⟨(i.blocks y f).1.upon D (λg j e=>?_),(i.blocks y f).2⟩⟩,λb hb=>by rw[A];exact t b hb,λy f b hb=>by rw[A];exact z y f b hb⟩
 ·have:=t g j
  omega
 ·have:=z y f g j
  omega
theorem Ac(bs:List UInt8): (Frame.got bs).2.1.length<=bs.length:=by
 unfold Frame.got
 repeat' split
 all_goals first|exact aC _|skip
 dsimp only;rw[uf,jT,List.length_drop]
 omega
theorem mW.fits{f:af}(h:mW f):f.fits:=⟨by have:=h.id;omega,by have:=h.size;omega,λi a=>by have:=h.blocks i a;omega⟩
attribute [local go_sem] Oper.semAt_some
theorem PZ(a:Option Addr)(cp:Nat)(bs:List UInt8)(w:World)(h:Lies w a (bs.map bv))(hc:bs.length<=cp)(hm:bs.length<=100000):
  Calls prog 80 #[.slice a bs.length cp] w λe w'=>PY w (gX bs) e w'/\Below w.heap.size w w':=by
 have R:=Ac bs;obtain⟨W0,h7⟩:=jl (w.alloc (.cells #[.int .u64 0,.int .u32 0,.slice none 0 0] 108));obtain⟨r,hr⟩:=jl w.heap.size;have y5:Below w.heap.size w W0:=by rw[h7];exact(Below.refl _ w).alloc jn _
 have a1:Blk W0 r 108 #[.int .u64 0,.int .u32 0,.slice none 0 0]:=by rw[h7,hr];exact Blk.new w _ _
 have z6:=Frame.tL a cp bs W0 (h.later y5) hc (by omega);obtain⟨n,c7⟩:=jl bs.length;rw[<-c7]at z6⊢;have e9:=a1.lt;have x7:w.heap.size<=r:=by rw[hr];exact aj _
 have hg:=@Ac bs;obtain⟨G,hG⟩:=jl (Frame.got bs);have c3:gX bs=if G.2.2.2=0/\G.1=77 then(if(bK G.2.1).err=0/\dw (bK G.2.1).ver (bK G.2.1).next (bK G.2.1).fs=true then some ((bK G.2.1).ver,(bK G.2.1).next,(bK G.2.1).fs)else none)else none:=by rw[hG];rfl
 have z7:G.2.1.length<=100000:=by rw[hG];omega
 have h3:Hid (Calls prog 124 #[.slice a n cp] W0 λe w'=>(∃v,e=.returned (.tuple #[.agg #[bv G.1,v],.int .i64 G.2.2.1,.int .i64 G.2.2.2])/\ak w' W0.heap.size v G.2.1)/\Below W0.heap.size W0 w'):=jq (z6.mono (λe w' E=>by rw[hG];exact⟨E.out,E.below⟩));have U:=jq c3;have h1:=jq y5;have h5:=jq a1;clear h hc hm R hg z6 c7 c3 a1;obtain⟨gk,t,gn,ge⟩:=G;dsimp only at h3 U z7;obtain⟨O,a0⟩:=jl gk.toNat;have b9:bv gk=.int .u8 (O:Int):=by rw[a0];rfl
 rw[b9]at h3
 have c4:gk=77↔(O:Int)=77:=by
  rw[a0]
  constructor
  ·rintro rfl;rfl
  ·intro e;exact UInt8.toNat_inj.1 (by show gk.toNat=77;omega)
 have x9:=jq c4;clear a0 b9 hG c4 y5
 go_enter func80,ntmps80
 go_wp2_with fail
 rw[<-h7,<-hr];clear h7 hr;refine h3.out.mono ?_;rintro e w1 ⟨⟨v,rfl,hO⟩,V⟩;obtain⟨va,vc,ev,d0,hL,b6,_⟩:=own_shape hO;subst ev;obtain⟨W1,h8⟩:=jl (w1.alloc (.cells #[.int .u8 (O:Int),.slice va t.length vc] 136));obtain⟨sb,c9⟩:=jl w1.heap.size;have Y:Below w1.heap.size w1 W1:=by rw[h8];exact(Below.refl _ w1).alloc jn _
 have h0:Blk W1 sb 136 #[.int .u8 (O:Int),.slice va t.length vc]:=by rw[h8,c9];exact Blk.new w1 _ _
 have b2:=hL.later Y;have b7:∀k,Mem.blk va=some k->k<W1.heap.size:=λk hk=>aD (b6 k hk).2 Y.size
 have y6:Below w.heap.size w W1:=h1.out.trans ((V.mono h1.out.size).trans (Y.mono (ax h1.out.size V.size)));have I:=(h5.out.below V h5.out.lt).below Y (aD h5.out.lt V.size);have a4:=I.lt;obtain⟨gl,R⟩:=jl t.length
 have c8:∀x:World,Below W1.heap.size W1 x->Calls prog 125 #[.slice va gl vc] x (Ab x (bK t)):=λx hx=>by
  rw[R];exact qY va vc t x d0 z7 (b2.later hx) (λk hk=>aD (b7 k hk) hx.size)
 rw[<-R]at h0 h8 z7⊢;have a8:=jq c8;have e7:=jq h0;have a9:=jq I;have x8:=jq y6;have k0:=h0.cell 0;have k1:=h0.cell 1;have r0:=I.cell 0;have r1:=I.cell 1;have r2:=I.cell 2;have f0:=I.frozen 0;have f1:=I.frozen 1;have f2:=I.frozen 2;simp only[jt,ja,jb]at k0 k1 r0 r1 r2;have j:=lN I (.int .u64 0) (.int .u32 0) (.slice none 0 0);have b0:=kU y6 x7 (.int .u64 0) (.int .u32 0) (.slice none 0 0);have a5:=jq b0;have c1:=R;have d5:=jq c1;subst h8 c9
 simp at k0 k1 r0 r1 r2 f0 f1 f2
 clear R c1 c8 h0 I y6 hL b2 b6 b7 Y V hO h5 h1 h3 b0 d0;obtain⟨ke,z8⟩:∃b:Bool,(ge==0)=b:=⟨_,rfl⟩;cases ke
 ·have D:gX bs=none:=by rw[U.out,if_neg (λE=>by rw[E.1]at z8;cases z8)]
  have P:=jq D;clear D
  go_wp2_with fail
  obtain⟨j,L,N⟩:=j;refine bodyPost_ret (v:=.tuple #[.agg #[.int .u64 0,.int .u32 0,.slice none 0 0],.int .i64 5]) (by simp[results,Tryz.f80,go_sem,j,L,N]) rfl ?_;rw[P.out];exact⟨rfl,a5.out⟩
 ·have d8:ge=0:=by simpa using z8
  subst d8;obtain⟨kk,z9⟩:∃b:Bool,((O:Int)==77)=b:=⟨_,rfl⟩;cases kk
  ·have D:gX bs=none:=by rw[U.out,if_neg (λE=>by rw[x9.out.1 E.2]at z9;cases z9)]
   have P:=jq D;clear D
   go_wp2_with fail
   obtain⟨j,L,N⟩:=j;refine bodyPost_ret (v:=.tuple #[.agg #[.int .u64 0,.int .u32 0,.slice none 0 0],.int .i64 5]) (by simp[results,Tryz.f80,go_sem,j,L,N]) rfl ?_;rw[P.out];exact⟨rfl,a5.out⟩
  ·have h9:gX bs=if(bK t).err=0/\dw (bK t).ver (bK t).next (bK t).fs=true then some ((bK t).ver,(bK t).next,(bK t).fs)else none:=by rw[U.out,if_pos ⟨rfl,x9.out.2 (by simpa using z9)⟩]
   have x4:=Fw t;rw[<-d5.out]at x4;obtain⟨M,hM⟩:=jl (bK t);rw[<-hM]at h9 x4 a8;obtain⟨ver,next,fs,er⟩:=M;dsimp only at h9 x4;obtain⟨v1,n1,g1,q1,b1⟩:=x4;have c0:∀f∈fs,f.fits:=λf hf=>(g1 f hf).fits
   have b8:=PG v1 n1 g1 q1 (by omega);have h4:=jq h9;have a6:=jq c0;have e6:=jq g1;clear hM h9 c0 U x9 g1 b1 j
   go_wp2_with fail
   refine(a8.out _ (by first|exact Below.refl _ _|exact(Below.refl _ _).drew)).mono ?_;rintro e w2 ⟨z,o,c2,l2,rfl,S,z3,b3,d1⟩;dsimp only at S;have e4:=z.size
   simp at e4
   have a3:=a9.out.below (w':=w2) ⟨z.os,z.tape,z.output,z.size,z.block⟩ a9.out.lt;obtain⟨n2,x6⟩:=jl l2.length;rw[<-x6];obtain⟨W3,z4⟩:=jl (w2.alloc (.cells #[.int .u64 (ver:Int),.int .u32 (next:Int),.slice o n2 c2] 108));obtain⟨mb,c6⟩:=jl w2.heap.size;have X:Below w2.heap.size w2 W3:=by rw[z4];exact(Below.refl _ w2).alloc jn _
   have Z:Blk W3 mb 108 #[.int .u64 (ver:Int),.int .u32 (next:Int),.slice o n2 c2]:=by rw[z4,c6];exact Blk.new w2 _ _
   have J:=a3.below X a3.lt;have y8:Below w.heap.size w w2:=x8.out.trans ((show Below (w1.alloc (.cells #[.int .u8 (O:Int),.slice va gl vc] 136)).heap.size (w1.alloc (.cells #[.int .u8 (O:Int),.slice va gl vc] 136)) w2 from⟨z.os,z.tape,z.output,z.size,z.block⟩).mono x8.out.size);have y9:=y8.trans (X.mono y8.size)
   have b4:gy (w1.alloc (.cells #[.int .u8 (O:Int),.slice va gl vc] 136)) W3 (.agg #[.int .u64 (ver:Int),.int .u32 (next:Int),.slice o n2 c2]) ver next fs:=by
    rw[x6];exact gy.later ⟨o,c2,l2,rfl,S,z3,b3,d1⟩ X
   have c5:∀x:World,Below W3.heap.size W3 x->Calls prog 99 #[.agg #[.int .u64 (ver:Int),.int .u32 (next:Int),.slice o n2 c2]] x λe w'=>e=.returned (.bool (dw ver next fs))/\Below x.heap.size x w':=λx hx=>by
    rw[x6,<-S];exact mH ver next o c2 l2 x ((z3.later X).later hx) (by omega) (by omega) (λy hy=>a6.out _ (by rw[<-S];exact List.mem_map_of_mem hy)) (by rw[S];exact b8)
   have j:=lN J (.int .u64 0) (.int .u32 0) (.slice none 0 0);have d4:=jq (kU y9 x7 (.int .u64 0) (.int .u32 0) (.slice none 0 0));have e0:=Z.cell 0;have e1:=Z.cell 1;have e2:=Z.cell 2;have z0:=J.frozen 0;have z1:=J.frozen 1;have z2:=J.frozen 2;have x0:=J.cell 0;have x1:=J.cell 1;have x2:=J.cell 2;have a7:=jq Z;have h6:=jq J;have h2:=jq y9;have d3:=jq b4;have y3:=jq c5;subst z4 c6
   simp at e0 e1 e2 z0 z1 z2 x0 x1 x2
   clear z S z3 b3 d1 a3 X Z J y8 y9 b4 c5 a6 b8 x6;obtain⟨e5,x3⟩:∃b:Bool,(er==0)=b:=⟨_,rfl⟩;cases e5
   ·have D:gX bs=none:=by rw[h4.out,if_neg (λE=>by rw[E.1]at x3;cases x3)]
    have P:=jq D;have e8: (er !=0)=true:=by simpa using x3
    clear D
    go_wp2_with fail
    obtain⟨j,L,N⟩:=j;refine bodyPost_ret (v:=.tuple #[.agg #[.int .u64 0,.int .u32 0,.slice none 0 0],.int .i64 5]) (by simp[results,Tryz.f80,go_sem,j,L,N]) rfl ?_;rw[P.out];exact⟨rfl,d4.out⟩
   ·have d9:er=0:=by simpa using x3
    subst d9;obtain⟨mv,e3⟩:∃b,dw ver next fs=b:=⟨_,rfl⟩;rw[e3]at y3 h4;clear j;cases mv
    ·have D:gX bs=none:=by rw[h4.out,if_neg (λE=>by cases E.2)]
     have P:=jq D;clear D
     go_wp2_with (first|(go_at_call 99;refine(y3.out _ (by first|exact Below.refl _ _|exact(Below.refl _ _).drew)).mono ?_;rintro e T ⟨rfl,c⟩;have i:=h6.out.below (w':=T) ⟨c.os,c.tape,c.output,c.size,c.block⟩ h6.out.lt;have y4:=jq i;have o0:=i.cell 0;have o1:=i.cell 1;have o2:=i.cell 2;have t0:=i.frozen 0;have t1:=i.frozen 1;have t2:=i.frozen 2;simp at o0 o1 o2 t0 t1 t2;have A:=jq c;clear c i))
     have y7:=h2.out.trans ((show Below (w2.alloc (.cells #[.int .u64 (ver:Int),.int .u32 (next:Int),.slice o n2 c2] 108)).heap.size (w2.alloc (.cells #[.int .u64 (ver:Int),.int .u32 (next:Int),.slice o n2 c2] 108)) T from⟨A.out.os,A.out.tape,A.out.output,A.out.size,A.out.block⟩).mono h2.out.size);obtain⟨j,L,N⟩:=lN y4.out (.int .u64 0) (.int .u32 0) (.slice none 0 0);have z5:=kU y7 x7 (.int .u64 0) (.int .u32 0) (.slice none 0 0);refine bodyPost_ret (v:=.tuple #[.agg #[.int .u64 0,.int .u32 0,.slice none 0 0],.int .i64 5]) (by simp[results,Tryz.f80,go_sem,j,L,N]) rfl ?_;rw[P.out];exact⟨rfl,z5⟩
    ·have d2:gX bs=some (ver,next,fs):=by rw[h4.out,if_pos ⟨rfl,rfl⟩]
     have d6:=jq d2;clear d2
     go_wp2_with (first|(go_at_call 99;refine(y3.out _ (by first|exact Below.refl _ _|exact(Below.refl _ _).drew)).mono ?_;rintro e T ⟨rfl,c⟩;have i:=h6.out.below (w':=T) ⟨c.os,c.tape,c.output,c.size,c.block⟩ h6.out.lt;have y4:=jq i;have o0:=i.cell 0;have o1:=i.cell 1;have o2:=i.cell 2;have t0:=i.frozen 0;have t1:=i.frozen 1;have t2:=i.frozen 2;simp at o0 o1 o2 t0 t1 t2;have x5:=a7.out.below (w':=T) ⟨c.os,c.tape,c.output,c.size,c.block⟩ a7.out.lt;have e0:=x5.cell 0;have e1:=x5.cell 1;have e2:=x5.cell 2;simp at e0 e1 e2;have A:=jq c;clear c i x5))
     have b5:=(show Below (w2.alloc (.cells #[.int .u64 (ver:Int),.int .u32 (next:Int),.slice o n2 c2] 108)).heap.size (w2.alloc (.cells #[.int .u64 (ver:Int),.int .u32 (next:Int),.slice o n2 c2] 108)) T from⟨A.out.os,A.out.tape,A.out.output,A.out.size,A.out.block⟩);have y7:=h2.out.trans (b5.mono h2.out.size);obtain⟨j,L,N⟩:=lN y4.out (.int .u64 (ver:Int)) (.int .u32 (next:Int)) (.slice o n2 c2);have z5:=kU y7 x7 (.int .u64 (ver:Int)) (.int .u32 (next:Int)) (.slice o n2 c2);have d7:=(((d3.out.later b5).set (p:=⟨r,0,none⟩) a4 (.int .u64 (ver:Int))).set (p:=⟨r,1,none⟩) a4 (.int .u32 (next:Int))).set (p:=⟨r,2,none⟩) a4 (.slice o n2 c2);refine bodyPost_ret (v:=.tuple #[.agg #[.int .u64 (ver:Int),.int .u32 (next:Int),.slice o n2 c2],.int .i64 0]) (by simp[results,Tryz.f80,go_sem,j,L,N]) rfl ?_;rw[d6.out];exact⟨⟨_,rfl,d7.base x8.out.size⟩,z5⟩
open Go.Proofs.YtndkohocgfmamaaGreatDoor.dW Dk
abbrev MT:=Nat×Nat×List af
def iU(s:Option MT×Bool)(b:List UInt8):Option MT×Bool:=
 (match gX b with
  |none=>s.1
  |some p=>match s.1 with
   |none=>some p
   |some q=>if q.1<p.1 then some p else some q,s.2|| !b.any (·!=0))
def jA(bl:List (List UInt8)):Nat->Option MT×Bool
 |0=>(none,false)
 |j+1=>iU (jA bl j) (gF bl j)
def mZ(bl:List (List UInt8)):Option MT×Bool:=jA bl 2
def P5(w:World)(s:Option MT×Bool)(e:Ending)(w':World):Prop:=
 match s.1 with
 |none=>e=.returned (.tuple #[mY,.int .i64 (if s.2 then 0 else 5)])
 |some p=>∃v,e=.returned (.tuple #[v,.int .i64 0])/\gy w w' v p.1 p.2.1 p.2.2
def uy(wb wr:World)(bb:Nat):Option MT->Prop
 |none=>Blk wr bb 108 #[.int .u64 0,.int .u32 0,.slice none 0 0]
 |some p=>∃a n c,Blk wr bb 108 #[.int .u64 (p.1:Int),.int .u32 (p.2.1:Int),.slice a n c]/\gy wb wr (.agg #[.int .u64 (p.1:Int),.int .u32 (p.2.1:Int),.slice a n c]) p.1 p.2.1 p.2.2
theorem uy.later{j wr w':World}{f:Nat}{o:Option MT}(h:uy j wr f o)(e:Below wr.heap.size wr w'):uy j w' f o:=by
 cases o with
 |none=>exact Blk.below h e h.lt
 |some p=>
  obtain⟨a,n,c,i,k⟩:=h;exact⟨a,n,c,i.below e i.lt,k.later e⟩
theorem P6{d g:Nat}{wv:Value}{m:DM}{w:World}(h:Dk w d g wv m)(d2:m.off=false)(d4:m.wt= [])(z7:33<=m.bl.length):
  Calls prog 43 #[.pointer (some ⟨d,0,none⟩)] w λe w'=>P5 w (mZ m.bl) e w'/\Below w.heap.size w w':=by
 have y4:=(Below.refl w.heap.size w).alloc jn (Obj.cells #[Value.int .u64 0,Value.int .u32 0,Value.slice none 0 0] 108);have hC:=jq (Dk.mK (h.later y4));have HA:=jq y4;have d0:decide ((m.bl.length:Int)<=32)=false:=jf (by omega);obtain⟨W,hW⟩:=jl ((w.alloc (Obj.cells #[Value.int .u64 0,Value.int .u32 0,Value.slice none 0 0] 108)).alloc (Obj.cells #[Value.int .u64 0,Value.int .u32 0,Value.slice none 0 0] 108));obtain⟨r,hr⟩:=jl w.heap.size;obtain⟨q,hq⟩:=jl (w.heap.size+1);have D:Blk W r 108 #[Value.int .u64 0,Value.int .u32 0,Value.slice none 0 0]:=by rw[hW,hr];exact(Blk.new w _ _).alloc _
 have y5:Blk W q 108 #[Value.int .u64 0,Value.int .u32 0,Value.slice none 0 0]:=by rw[hW,hq];exact Blk.at_ (by simp)
 have z9:Below w.heap.size w W:=by rw[hW];exact HA.out.alloc (by simp) _
 have H:=jq h;have c1:=jq D;have c2:Hid (uy W W q (jA m.bl 0).1):=jq y5;have z5:=jq z9;have d6:=jq (Below.refl W.heap.size W);have b5:w.heap.size<=r:=by rw[hr];exact aj _
 have b4:w.heap.size<=q:=by rw[hq];omega
 have y8:=D.lt;have X:=y5.lt;have V:q≠r:=by omega
 clear y4 h D y5 z9
 go_enter func43,ntmps43
 go_wp2_with fail
 refine hC.out.mono ?_;rintro e w1 ⟨rfl,rfl⟩
 go_wp2_with fail
 rw[<-hW,<-hq,<-hr];clear hC HA d0 hW hr hq
 go_loopw[5,6,15] (λf b i wr=>∃(j:Nat) (o:Option MT) (k:Bool),j<=2/\f=.bool o.isSome/\b=.bool k/\i=.int .i64 (j:Int)/\Hid (jA m.bl j=(o,k))/\Hid (Blk wr r 108 #[Value.int .u64 0,Value.int .u32 0,Value.slice none 0 0])/\Hid (uy W wr q o)/\Hid (Below w.heap.size w wr)/\Hid (W.heap.size<=wr.heap.size)) (λ_ _ i _=>2-(intOf i).toNat)
 case atStart=>exact⟨0,none,false,by omega,rfl,rfl,rfl,jq rfl,c1,c2,z5,jq jn⟩
 case round=>
  obtain⟨j,o,k,hj,rfl,rfl,rfl,x5,D,x1,S,a1⟩:=hrel
  by_cases U:j<2
  ·have hd:decide ((j:Int) <2)=true:=by simp;omega
   have hS:=jq (OZ j U (H.out.later S.out) d2 d4 z7);obtain⟨bs,G⟩:=jl (gF m.bl j);have a9:bs.length=2048:=by rw[G];exact EH H.out.len U z7
   have b6:jA m.bl (j+1)=iU (o,k) bs:=by show iU (jA m.bl j) (gF m.bl j)=_;rw[x5.out,G]
   rw[<-G]at hS;obtain⟨bn,x0⟩:=jl bs.length;have h6:=jq b6;have z6:=jq a9;have c4:=jq x0;have d3:=S.out.size;obtain⟨nz,b3⟩:=jl (bs.any (·!=0));have h0:=jq b3;clear G a9 b6 x5 b3
   go_wp2_with fail
   refine hS.out.mono ?_;rintro e w1 ⟨v,rfl,hO,h2⟩;obtain⟨va,vc,ev,b7,hL,_,_⟩:=own_shape hO;subst ev;have x3:=O1 va vc bs w1 hL (by rw[z6.out];omega);have y6:=PZ va vc bs w1 hL b7 (by rw[z6.out];omega);rw[<-h0.out]at x3;rw[<-x0]at x3 y6⊢;have c8:=jq x3;have c9:=jq y6;have z3:=jq (D.out.below h2 D.out.lt);have c5:=jq (x1.out.later h2);have z8:=S.out.trans (h2.mono d3);have z4:=jq z8;have a2:=ax a1.out h2.size;have c4:=jq x0;clear hO hL x3 y6 h2 hd hS z8 b7 x0 x1 D S a1;obtain⟨N,a7⟩:=jl ((k|| !nz));have L:=jq a7;clear a7;cases k
   all_goals
    go_wp2_with (first|(go_at_call 78;refine c8.out.mono ?_;rintro e w2 ⟨rfl,rfl⟩))
    refine c9.out.mono ?_;rintro e w3 ⟨hG,P⟩;have d7:=ax a2 P.size;have h7:=z4.out.trans (P.mono z4.out.size);have h9:=z3.out.below P z3.out.lt;have x2:=c5.out.later P
    cases hgs:gX bs with
    |none=>
     rw[hgs]at hG;obtain rfl:e=_:=hG;unfold mY;have E:jA m.bl (j+1)=(o,N):=by rw[h6.out,L.out,h0.out];unfold iU;rw[hgs]
     have O:=jq E;have d5:=jq P;have J:=jq h7;have h1:=jq h9;have c6:=jq x2;clear hgs E P h7 h9 x2
     go_wp2_with fail
     exact⟨⟨j+1,o,N,U,rfl,by rw[L.out];simp,by simp,O,jq (h1.out.alloc _),jq (c6.out.later ((Below.refl _ w3).alloc jn _)),jq (J.out.alloc J.out.size _),jq (by simp;omega)⟩,by simp[intOf];omega⟩
    |some p=>
     rw[hgs]at hG;obtain⟨v,rfl,T⟩:=hG;obtain⟨c,t,pf⟩:=p;dsimp only at T;obtain⟨x,z,l3,rfl,a8,a0,a4,b8⟩:=T;obtain⟨A,y7⟩:=jl l3.length
     have a5:gy W w3 (.agg #[.int .u64 (c:Int),.int .u32 (t:Int),.slice x A z]) c t pf:=by
      rw[y7];exact gy.base ⟨x,z,l3,rfl,a8,a0,a4,b8⟩ a2
     rw[<-y7];have M:=(Below.refl w3.heap.size w3).alloc jn (.cells #[.int .u64 (c:Int),.int .u32 (t:Int),.slice x A z] 108);have x4:=Blk.new w3 108 #[.int .u64 (c:Int),.int .u32 (t:Int),.slice x A z];have e0:=x4.cell 0;have e1:=x4.cell 1;have e2:=x4.cell 2
     simp at e0 e1 e2
     have y9:=jq a5;have J:=jq h7;have h1:=jq h9;clear a8 a0 a4 b8 y7 a5 x4 P h7 h9
     cases o with
     |none=>
      have E:jA m.bl (j+1)=(some (c,t,pf),N):=by rw[h6.out,L.out,h0.out];unfold iU;rw[hgs]
      have a:Blk (w3.alloc (.cells #[.int .u64 (c:Int),.int .u32 (t:Int),.slice x A z] 108)) q 108 #[.int .u64 0,.int .u32 0,.slice none 0 0]:=x2.later M;have b0:=a.cell 0;have b1:=a.cell 1;have b2:=a.cell 2;have z0:=a.frozen 0;have z1:=a.frozen 1;have z2:=a.frozen 2
      simp at b0 b1 b2 z0 z1 z2
      have O:=jq E;have G:=((a.set 0 (.int .u64 (c:Int))).set 1 (.int .u32 (t:Int))).set 2 (.slice x A z);have h3:=(((y9.out.later M).set (p:=⟨q,0,none⟩) X (.int .u64 (c:Int))).set (p:=⟨q,1,none⟩) X (.int .u32 (t:Int))).set (p:=⟨q,2,none⟩) X (.slice x A z);have x8:=jq G;have x6:=jq h3;have y3:=jq ((((h1.out.alloc (.cells #[.int .u64 (c:Int),.int .u32 (t:Int),.slice x A z] 108)).far (p:=⟨q,0,none⟩) V.symm (.int .u64 (c:Int))).far (p:=⟨q,1,none⟩) V.symm (.int .u32 (t:Int))).far (p:=⟨q,2,none⟩) V.symm (.slice x A z));have x7:=jq (kU (J.out.alloc J.out.size (.cells #[.int .u64 (c:Int),.int .u32 (t:Int),.slice x A z] 108)) b4 (.int .u64 (c:Int)) (.int .u32 (t:Int)) (.slice x A z));clear E hgs a G h3 M
      go_wp2_with fail
      exact⟨⟨j+1,some (c,t,pf),N,U,rfl,by rw[L.out];simp,by simp,O,y3,jq ⟨x,A,z,x8.out,x6.out⟩,x7,jq (by simp;omega)⟩,by simp[intOf];omega⟩
     |some o=>
      obtain⟨I,R,qf⟩:=o;obtain⟨Y,on,Z,h4,h8⟩:=x2;dsimp only at h4 h8;have a:=h4.below M h4.lt;have b0:=a.cell 0
      simp at b0
      by_cases hlt:I<c
      ·have d1:decide ((I:Int) <(c:Int))=true:=jd (by omega);have E:jA m.bl (j+1)=(some (c,t,pf),N):=by rw[h6.out,L.out,h0.out];unfold iU;rw[hgs];dsimp only;rw[if_pos hlt]
       have b1:=a.cell 1;have b2:=a.cell 2;have z0:=a.frozen 0;have z1:=a.frozen 1;have z2:=a.frozen 2
       simp at b1 b2 z0 z1 z2
       have O:=jq E;have G:=((a.set 0 (.int .u64 (c:Int))).set 1 (.int .u32 (t:Int))).set 2 (.slice x A z);have h3:=(((y9.out.later M).set (p:=⟨q,0,none⟩) X (.int .u64 (c:Int))).set (p:=⟨q,1,none⟩) X (.int .u32 (t:Int))).set (p:=⟨q,2,none⟩) X (.slice x A z);have x8:=jq G;have x6:=jq h3;have y3:=jq ((((h1.out.alloc (.cells #[.int .u64 (c:Int),.int .u32 (t:Int),.slice x A z] 108)).far (p:=⟨q,0,none⟩) V.symm (.int .u64 (c:Int))).far (p:=⟨q,1,none⟩) V.symm (.int .u32 (t:Int))).far (p:=⟨q,2,none⟩) V.symm (.slice x A z));have x7:=jq (kU (J.out.alloc J.out.size (.cells #[.int .u64 (c:Int),.int .u32 (t:Int),.slice x A z] 108)) b4 (.int .u64 (c:Int)) (.int .u32 (t:Int)) (.slice x A z));clear E hgs a G h3 M h4 h8
       go_wp2_with fail
       exact⟨⟨j+1,some (c,t,pf),N,U,rfl,by rw[L.out];simp,by simp,O,y3,jq ⟨x,A,z,x8.out,x6.out⟩,x7,jq (by simp;omega)⟩,by simp[intOf];omega⟩
      ·have d1:decide ((I:Int) <(c:Int))=false:=jf (by omega);have E:jA m.bl (j+1)=(some (I,R,qf),N):=by rw[h6.out,L.out,h0.out];unfold iU;rw[hgs];dsimp only;rw[if_neg hlt]
       have O:=jq E;have c7:=jq a;have c0:=jq (h8.later M);clear E hgs a h4 h8 M
       go_wp2_with fail
       exact⟨⟨j+1,some (I,R,qf),N,U,rfl,by rw[L.out];simp,by simp,O,jq (h1.out.alloc _),jq ⟨Y,on,Z,c7.out,c0.out⟩,jq (J.out.alloc J.out.size _),jq (by simp;omega)⟩,by simp[intOf];omega⟩
  ·obtain rfl:j=2:=by omega
   have hd:decide ((2:Int) <2)=false:=by decide
   have a6:mZ m.bl=(o,k):=x5.out;have p0:=D.out.cell 0;have p1:=D.out.cell 1;have p2:=D.out.cell 2;have f0:=D.out.frozen 0;have f1:=D.out.frozen 1;have f2:=D.out.frozen 2
   simp at p0 p1 p2
   have x9:=jq a6;clear a6 x5
   cases o with
   |none=>
    have a:Blk wr q 108 #[.int .u64 0,.int .u32 0,.slice none 0 0]:=x1.out;have q0:=a.cell 0;have q1:=a.cell 1;have q2:=a.cell 2
    simp at q0 q1 q2
    have y:=lN D.out (.int .u64 0) (.int .u32 0) (.slice none 0 0);have h5:=jq (kU S.out b5 (.int .u64 0) (.int .u32 0) (.slice none 0 0));clear a;cases k
    ·go_wp2_with fail
     obtain⟨y0,y1,y2⟩:=y;refine bodyPost_ret (v:=.tuple #[.agg #[.int .u64 0,.int .u32 0,.slice none 0 0],.int .i64 5]) (by simp[results,Tryz.f43,go_sem,y0,y1,y2]) rfl ?_;rw[x9.out];exact⟨rfl,h5.out⟩
    ·go_wp2_with fail
     obtain⟨y0,y1,y2⟩:=y;refine bodyPost_ret (v:=.tuple #[.agg #[.int .u64 0,.int .u32 0,.slice none 0 0],.int .i64 0]) (by simp[results,Tryz.f43,go_sem,y0,y1,y2]) rfl ?_;rw[x9.out];exact⟨rfl,h5.out⟩
   |some o=>
    obtain⟨I,R,qf⟩:=o;obtain⟨Y,on,Z,a,T⟩:=x1.out;dsimp only at a T;have q0:=a.cell 0;have q1:=a.cell 1;have q2:=a.cell 2
    simp at q0 q1 q2
    have y:=lN D.out (.int .u64 (I:Int)) (.int .u32 (R:Int)) (.slice Y on Z);have h5:=jq (kU S.out b5 (.int .u64 (I:Int)) (.int .u32 (R:Int)) (.slice Y on Z));have b9:=jq (((T.set (p:=⟨r,0,none⟩) y8 (.int .u64 (I:Int))).set (p:=⟨r,1,none⟩) y8 (.int .u32 (R:Int))).set (p:=⟨r,2,none⟩) y8 (.slice Y on Z));clear a T
    go_wp2_with fail
    obtain⟨y0,y1,y2⟩:=y;refine bodyPost_ret (v:=.tuple #[.agg #[.int .u64 (I:Int),.int .u32 (R:Int),.slice Y on Z],.int .i64 0]) (by simp[results,Tryz.f43,go_sem,y0,y1,y2]) rfl ?_;rw[x9.out];exact⟨⟨_,rfl,b9.out.base z5.out.size⟩,h5.out⟩
end Read
namespace Full
open Go.RowKit Go.Deep Mem Crc Dk aA Go.Proofs.YtndkohocgfmamaaGreatDoor.Read
variable {d g bx:Nat}{wv:Value}{m:DM}{w:World}
theorem P7(h:Dk w d g wv m)(hb:Blk w bx 24 #[.pointer (some ⟨d,0,none⟩)])(i:Nat):
  Calls prog 45 #[.int .i64 (i:Int),.pointer (some ⟨bx,0,none⟩)] w λe w'=>e=.returned (.bool (decide (m.bl.length<=i)))/\Below w.heap.size w w':=by
 have hc:∀x:World,Below w.heap.size w x->Calls prog 46 #[.pointer (some ⟨d,0,none⟩)] x λe w'=>e=.returned (.int .i64 (m.bl.length:Int))/\w'=x:=λx f=>Dk.mK (h.later f)
 have a:=jq hc;have c:=hb.cell 0
 simp at c
 clear h hb hc
 go_enter func45,ntmps45
 go_wp2_with fail
 refine(a.out _ (by first|exact Below.refl _ _|exact(Below.refl _ _).drew)).mono ?_;rintro e w1 ⟨rfl,rfl⟩
 go_wp2_with fail
 go_ret
 exact⟨rfl,by first|exact Below.refl _ _|exact(Below.refl _ _).drew⟩
theorem P8(h:Dk w d g wv m)(hb:Blk w bx 24 #[.pointer (some ⟨d,0,none⟩)])(a:Option Addr)(cp:Nat)(l:List Nat)(J:Lies w a (l.map iv))(X:l.length<=4000000):
  Calls prog 81 #[.slice a l.length cp,.func (.func 45) #[] #[.pointer (some ⟨bx,0,none⟩)]] w λe w'=>∃i:Int,e=.returned (.int .i64 i)/\decide (0<=i)=l.any (λi=>decide (m.bl.length<=i))/\Below w.heap.size w w':=by
 have L:∀(x:World) (i:Nat),Below w.heap.size w x->Calls prog 45 #[.int .i64 (i:Int),.pointer (some ⟨bx,0,none⟩)] x λe w'=>e=.returned (.bool (decide (m.bl.length<=i)))/\Below x.heap.size x w':=λx i k=>P7 (h.later k) (hb.below k hb.lt) i
 have P:=jq L;have S:=jq J;obtain⟨n,D⟩:=jl l.length;rw[<-D]at X⊢;have I:=jq D;clear h hb L D J
 go_enter func81,ntmps81
 go_wp2_with fail
 go_loopw[8] (λi wr=>∃j:Nat,j<=n/\i=.int .i64 (j:Int)/\Hid (Below w.heap.size w wr)/\Hid ((l.take j).any (λi=>decide (m.bl.length<=i))=false)) (λi _=>n-(intOf i).toNat)
 case atStart=>exact⟨0,by omega,rfl,jq (Below.refl _ _),jq rfl⟩
 case round=>
  obtain⟨j,hj,rfl,f,v⟩:=hrel
  by_cases N:j<n
  ·have V:decide ((j:Int) <(n:Int))=true:=jd (by omega);obtain⟨c,hc⟩:∃c,l[j]? =some c:=⟨l[j]'(by rw[<-I.out];exact N),jg _⟩;obtain⟨g,off,rfl,_,hcs⟩:=(S.out.later f.out).resolve_left (λe=>by rw[dM.1 e]at hc;simp at hc);have Z:wr.cell? ⟨g,off+j,none⟩=some (.int .i64 (c:Int)):=hcs j _ (by rw[List.getElem?_map,hc];rfl);have t: (l.take (j+1)).any (λi=>decide (m.bl.length<=i))=((l.take j).any (λi=>decide (m.bl.length<=i))||decide (m.bl.length<=c)):=by rw[bF,hc,List.any_append];simp
   have z:decide (m.bl.length<=c)=true->l.any (λi=>decide (m.bl.length<=i))=true:=λh=>jm.2 ⟨c,jM hc,h⟩
   rw[v.out,Bool.false_or]at t;have A:∀x:World,Below wr.heap.size wr x->Calls prog 45 #[.int .i64 (c:Int),.pointer (some ⟨bx,0,none⟩)] x λe w'=>e=.returned (.bool (decide (m.bl.length<=c)))/\Below wr.heap.size wr w':=λx k=>(P.out x c (f.out.trans (k.mono f.out.size))).mono (λe w' M=>⟨M.1,k.trans (M.2.mono k.size)⟩)
   obtain⟨Y,O⟩:=jl (decide (m.bl.length<=c));rw[<-O]at t z A;have G:=jq A;have T:=jq t;have R:=jq z;clear hcs hc A t z O v;cases Y
   ·go_wp2_with (first|(go_at_call 45;refine(G.out _ (by first|exact Below.refl _ _|exact(Below.refl _ _).drew)).mono ?_;rintro e w1 ⟨rfl,o⟩;have y:=jq (f.out.trans (o.mono f.out.size));clear o))
    exact⟨⟨j+1,N,by simp,y,T⟩,by simp[intOf];omega⟩
   ·go_wp2_with (first|(go_at_call 45;refine(G.out _ (by first|exact Below.refl _ _|exact(Below.refl _ _).drew)).mono ?_;rintro e w1 ⟨rfl,o⟩;have y:=jq (f.out.trans (o.mono f.out.size));clear o))
    go_ret
    exact⟨_,rfl,by rw[R.out (by trivial)];exact jd (by omega),y.out⟩
  ·obtain rfl:n=j:=by omega
   have V:decide ((n:Int) <(n:Int))=false:=jf (by omega);have E:=v.out;rw[jW (by rw[I.out];exact aj _)]at E;have U:=jq E;clear E v
   go_wp2_with fail
   go_ret
   exact⟨_,rfl,by rw[U.out];rfl,f.out⟩
theorem P9(h:Dk w d g wv m)(hb:Blk w bx 24 #[.pointer (some ⟨d,0,none⟩)])(a:Option Addr)(cp:Nat)(l:List Nat)(f:Lies w a (l.map iv))(j:l.length<=4000000):
  Calls prog 44 #[.slice a l.length cp,.func (.func 45) #[] #[.pointer (some ⟨bx,0,none⟩)]] w λe w'=>e=.returned (.bool (l.any (λi=>decide (m.bl.length<=i))))/\Below w.heap.size w w':=by
 have H:=jq (P8 h hb a cp l f j);clear h;obtain⟨n,k⟩:=jl l.length;rw[<-k]at H⊢;obtain⟨z,o⟩:=jl (l.any (λi=>decide (m.bl.length<=i)));rw[<-o]at H⊢;clear k o j hb f
 go_enter func44,ntmps44
 go_wp2_with fail
 refine H.out.mono ?_;rintro e w1 ⟨i,rfl,v,c⟩;have t:=jq c;clear c
 go_wp2_with fail
 go_ret
 exact⟨by rw[<-v];rfl,t.out⟩
open Go.Maps
open Store (au none' nv)
structure qZ(p:MT):Prop where
 ver:p.1<18446744073709551616
 next:p.2.1<4294967296
 got:∀f∈p.2.2,mW f
 few:p.2.2.length<=2048
 aJ: (aI p.2.2).length<=5000
 may:p=(0,0,[])\/dw p.1 p.2.1 p.2.2=true
variable {p:MT}
theorem Fy{b:List UInt8}(hb:b.length=2048)(h:gX b=some p):qZ p:=by
 have o:=Ac b;unfold gX at h
 by_cases c: (Frame.got b).2.2.2=0/\(Frame.got b).1=77
 ·rw[if_pos c]at h
  by_cases a: (bK (Frame.got b).2.1).err=0/\dw (bK (Frame.got b).2.1).ver (bK (Frame.got b).2.1).next (bK (Frame.got b).2.1).fs=true
  ·rw[if_pos a]at h;have h:=Option.some.inj h;subst h;obtain⟨i,j,e,f,k⟩:=Fw (Frame.got b).2.1;exact⟨by show(bK _).ver<_;omega,by show(bK _).next<_;omega,e,f,by show(aI (bK _).fs).length<=_;omega,.inr a.2⟩
  ·rw[if_neg a]at h;cases h
 ·rw[if_neg c]at h;cases h
theorem Fz(bl:List (List UInt8))(hb:∀j,j<2->(dW.gF bl j).length=2048):∀(j:Nat) (p:MT),j<=2->(jA bl j).1=some p->qZ p
 |0,p,_,h=>by cases h
 |j+1,p,hj,h=>by
  have c:=λp=>Fz bl hb j p (by omega)
  have a:=hb j (by omega);have e:jA bl (j+1)=iU (jA bl j) (dW.gF bl j):=rfl;rw[e]at h;unfold iU at h;dsimp only at h;cases hg:Read.gX (dW.gF bl j)with
  |none=>rw[hg]at h;exact c p h
  |some x=>
   rw[hg]at h;dsimp only at h
   cases hs: (jA bl j).1 with
   |none=>rw[hs]at h;rw[<-Option.some.inj h];exact Fy a hg
   |some y=>
    rw[hs]at h;dsimp only at h
    by_cases hlt:y.1<x.1
    ·rw[if_pos hlt]at h;rw[<-Option.some.inj h];exact Fy a hg
    ·rw[if_neg hlt]at h;exact c p (hs.trans h)
theorem Qa{bl:List (List UInt8)}{k:Bool}(hb:∀j,j<2->(dW.gF bl j).length=2048)(h:mZ bl=(some p,k)):qZ p:=Fz bl hb 2 p jn (by show(mZ bl).1=_;rw[h])
theorem Qb{fs:List af}{f:af}(h:f∈fs):f.blocks.length<=(aI fs).length:=by
 obtain⟨s,t,rfl⟩:=rP h;unfold aA.aI;rw[ig,jC,jL,jL]
 omega
def iG(m:DM):Int×DM×MT:=
 match (mZ m.bl).1 with
 |none=>(if(mZ m.bl).2 then 0 else 5,m,(0,0,[]))
 |some p=>
  if p.2.2.any (λf=>f.blocks.any (λi=>decide (m.bl.length<=i)))then(9,m,p)
  else if p.1=0 then(0,m,p)
  else((m.dR p.1 (bI p.1 p.2.1 p.2.2)).2,(m.dR p.1 (bI p.1 p.2.1 p.2.2)).1,p)
def uz(w:World)(d g:Nat)(o:Int×DM×MT)(e:Ending)(w':World)(wv':Value):Prop:=
 if o.1=0 then∃s cm a c l,e=.returned (.tuple #[.pointer (some ⟨s,0,none⟩),.int .i64 0])/\(l:List FR).map FR.f=o.2.2.2.2/\Fu w' (λk=>Has d g wv' k\/(w.heap.size<=k/\k<w'.heap.size)) s d g cm wv' o.2.1 o.2.2.1 o.2.2.2.1 a c l false none'
 else e=.returned (.tuple #[.pointer none,.int .i64 o.1])
theorem FB{w w2 w':World}{d g:Nat}{wv:Value}{m:DM}{ver next:Nat}{a:Option Addr}{c:Nat}{l:List FR}(D:w.heap.size<=w2.heap.size)(hd:Dk w2 d g wv m)(o:bV w2 a l)(ha:∀b,Mem.blk a=some b->w.heap.size<=b/\b<w2.heap.size)(A:∀x∈l,∀b,Mem.blk x.a=some b->w.heap.size<=b/\b<w2.heap.size)(v:∀b,Mem.blk a=some b->¬Has d g wv b)(y:∀x∈l,∀b,Mem.blk x.a=some b->¬Has d g wv b)(z:w'=(w2.alloc (.map #[] 0)).alloc (.cells #[.pointer (some ⟨d,0,none⟩),.int .u64 (ver:Int),.int .u32 (next:Int),.slice a l.length c,.map (some w2.heap.size),.bool false] 119)):
  Fu w' (λk=>Has d g wv k\/(w.heap.size<=k/\k<w'.heap.size)) (w2.heap.size+1) d g w2.heap.size wv m ver next a c l false none':=by
 subst z;have i:Below w2.heap.size w2 ((w2.alloc (.map #[] 0)).alloc (.cells #[.pointer (some ⟨d,0,none⟩),.int .u64 (ver:Int),.int .u32 (next:Int),.slice a l.length c,.map (some w2.heap.size),.bool false] 119)):=((Below.refl _ w2).alloc jn _).alloc (by simp) _;have E: ((w2.alloc (.map #[] 0)).alloc (.cells #[.pointer (some ⟨d,0,none⟩),.int .u64 (ver:Int),.int .u32 (next:Int),.slice a l.length c,.map (some w2.heap.size),.bool false] 119)).heap.size=w2.heap.size+2:=by simp
 have t:aY ((w2.alloc (.map #[] 0)).alloc (.cells #[.pointer (some ⟨d,0,none⟩),.int .u64 (ver:Int),.int .u32 (next:Int),.slice a l.length c,.map (some w2.heap.size),.bool false] 119)) 9 w2.heap.size (λ_=>none):=(aY.made w2 _).keep (Below.heap_alloc _ _ _ (by simp));refine⟨Blk.at_ (by simp),hd.later i,o.later i,λk e=>?_,λx j k e=>?_,⟨_,t,λx h=>absurd rfl h,λnm=>rfl⟩,.inr ⟨by omega,by omega⟩,.inr ⟨by omega,by omega⟩,λk e=>.inl e,λk e=>?_⟩
 ·have f:=ha k e;exact⟨.inr ⟨f.1,by omega⟩,by omega,by omega,v k e⟩
 ·have f:=A x j k e;exact⟨.inr ⟨f.1,by omega⟩,by omega,by omega,y x j k e⟩
 ·rcases e with e|e
  ·have:=hd.lt k e
   omega
  ·exact e.2
theorem Qc:qZ (0,0,[]):=⟨by decide,by decide,λf a=>(List.not_mem_nil a).elim,aC _,aC _,.inl rfl⟩
def rf(m:DM)(p:MT):Int×DM×MT:=
 if p.2.2.any (λf=>f.blocks.any (λi=>decide (m.bl.length<=i)))then(9,m,p)
 else if p.1=0 then(0,m,p)
 else((m.dR p.1 (bI p.1 p.2.1 p.2.2)).2,(m.dR p.1 (bI p.1 p.2.1 p.2.2)).1,p)
theorem Qd{d g:Nat}{wv:Value}{m:DM}{w:World}(h:Dk w d g wv m)(z:m.off=false)(A:m.wt= [])(c:33<=m.bl.length):
  Calls prog 43 #[.pointer (some ⟨d,0,none⟩)] w λe w'=>Below w.heap.size w w'/\((e=.returned (.tuple #[mY,.int .i64 5])/\iG m=(5,m,(0,0,[])))\/∃p v,e=.returned (.tuple #[v,.int .i64 0])/\gy w w' v p.1 p.2.1 p.2.2/\qZ p/\iG m=rf m p):=
 (P6 h z A c).mono (λe w' x=>by
  obtain⟨a,f⟩:=x;refine⟨f,?_⟩
  cases hrm:mZ m.bl with
  |mk o k=>
   rw[hrm]at a
   cases o with
   |none=>
    have a:e=.returned (.tuple #[mY,.int .i64 (if k then 0 else 5)]):=a
    cases k with
    |false=>exact .inl ⟨a,by unfold iG;rw[hrm];rfl⟩
    |true=>exact .inr ⟨(0,0,[]),mY,a,PX _ _,Qc,by unfold iG;rw[hrm];rfl⟩
   |some p=>
    obtain⟨v,i,t⟩:=a;exact .inr ⟨p,v,i,t,Qa (λj y=>dW.EH h.len y c) hrm,by unfold iG rf;rw[hrm]⟩)
attribute [local go_sem] Oper.semAt_some
theorem Qe{d g:Nat}{wv:Value}{m:DM}{w:World}(h:Dk w d g wv m)(b6:m.off=false)(c1:m.wt= [])(a0:33<=m.bl.length):
  Calls prog 16 #[.pointer (some ⟨d,0,none⟩)] w λe w'=>∃wv',Dk w' d g wv' (iG m).2.1/\Upon (Has d g wv) w w'/\(∀k,wv'.ownBlock=some k->wv.ownBlock=some k\/w.heap.size<=k)/\uz w d g (iG m) e w' wv':=by
 obtain⟨W0,x1⟩:=jl (w.alloc (.cells #[.pointer (some ⟨d,0,none⟩)] 24));obtain⟨bx,x6⟩:=jl w.heap.size;have y7:Below w.heap.size w W0:=by rw[x1];exact(Below.refl w.heap.size w).alloc jn _
 have hb:Blk W0 bx 24 #[.pointer (some ⟨d,0,none⟩)]:=by rw[x1,x6];exact Blk.new w _ _
 have e5:W0.heap.size=w.heap.size+1:=by rw[x1];simp
 have b8:∀x:World,Below W0.heap.size W0 x->Calls prog 43 #[.pointer (some ⟨d,0,none⟩)] x λe w'=>Below x.heap.size x w'/\((e=.returned (.tuple #[mY,.int .i64 5])/\iG m=(5,m,(0,0,[])))\/∃p v,e=.returned (.tuple #[v,.int .i64 0])/\gy x w' v p.1 p.2.1 p.2.2/\qZ p/\iG m=rf m p):=λx j=>Qd ((h.later y7).later j) b6 c1 a0
 have c8:=jq b8;have HD:=jq h;have M:=jq h.lt;have z0:=jq y7;have HB:=jq hb;have c0:=hb.cell 0
 simp at c0
 clear h y7 hb b8
 go_enter func16,ntmps16
 go_wp2_with fail
 rw[<-x1,<-x6];have c6:=jq x6;clear x1 x6;refine(c8.out _ (by first|exact Below.refl _ _|exact(Below.refl _ _).drew)).mono ?_;rintro e w1 ⟨h8,hR⟩;have e6:=h8.size;have X:=z0.out.trans (h8.mono z0.out.size);have x3:=HB.out.below h8 HB.out.lt;have z1:=jq X;have d8:=jq x3;rcases hR with⟨rfl,hO⟩|⟨p,v,rfl,d3,y9,hO⟩
 ·have HO:=jq hO;unfold mY;clear hO h8 X x3
  go_wp2_with fail
  go_ret2
  have x2:Below w.heap.size w (w1.alloc (.cells #[.int .u64 0,.int .u32 0,.slice none 0 0] 108)):=z1.out.alloc z1.out.size _;rw[HO.out];exact⟨wv,HD.out.later x2,Upon.of_below x2,λk t=>.inl t,rfl⟩
 ·obtain⟨ver,next,fs⟩:=p;obtain⟨a,c,l,rfl,hl,hF,ha,j⟩:=d3;dsimp only at hl ha j;obtain⟨n,hn⟩:=jl l.length;rw[<-hn];obtain⟨W,hW⟩:=jl (w1.alloc (.cells #[.int .u64 (ver:Int),.int .u32 (next:Int),.slice a n c] 108));obtain⟨mb,x9⟩:=jl w1.heap.size;have D:Blk W mb 108 #[.int .u64 (ver:Int),.int .u32 (next:Int),.slice a n c]:=by rw[hW,x9];exact Blk.new w1 _ _
  have Y:Below w1.heap.size w1 W:=by rw[hW];exact(Below.refl _ w1).alloc jn _
  have a4:=hF.later Y;have a7:=x3.below Y x3.lt;have a1:Below w.heap.size w W:=X.trans (Y.mono X.size);have e4:n<=2048:=by rw[hn,<-List.length_map (f:=FR.f),hl];exact y9.few
  have a5:∀b,Mem.blk a=some b->w.heap.size<=b/\b<W.heap.size:=λb hb=>⟨by have:=(ha b hb).1;omega,aD (ha b hb).2 Y.size⟩
  have c3:∀x∈l,∀b,Mem.blk x.a=some b->w.heap.size<=b/\b<W.heap.size:=λx c2 b hb=>⟨by have:=(j x c2 b hb).1;omega,aD (j x c2 b hb).2 Y.size⟩
  have m0:=D.cell 0;have m1:=D.cell 1;have m2:=D.cell 2
  simp at m0 m1 m2
  have HO:=jq hO;have h7:=jq y9;have S:=jq hl;have HN:=jq hn;have z5:=jq D;have z2:=jq a4;have V:=jq a7;have U:=jq a1;have L:=jq a5;have N:=jq c3;have d9:w.heap.size<=mb:=by rw[x9];exact X.size
  clear hO y9 hl hn D a4 a7 a1 a5 c3 hF ha j h8 X x3 Y
  go_wp2_with fail
  rw[<-hW,<-x9];clear hW x9 m0 m1 m2
  go_loopw[20] (λi wr=>∃k:Nat,k<=n/\i=.int .i64 (k:Int)/\Hid (Below W.heap.size W wr)/\Hid ((fs.take k).any (λf=>f.blocks.any (λi=>decide (m.bl.length<=i)))=false)) (λi _=>n-(intOf i).toNat)
  case atStart=>exact⟨0,aC _,rfl,jq (Below.refl _ _),jq rfl⟩
  case round=>
   obtain⟨k,t,rfl,G,R⟩:=hrel
   by_cases a8:k<n
   ·have d5:decide ((k:Int) <(n:Int))=true:=jd (by omega);obtain⟨x,j⟩:∃x,l[k]? =some x:=⟨l[k]'(by rw[<-HN.out];exact a8),jg _⟩;have Z:=z2.out.later G.out;obtain⟨g,o,rfl,e0,e1,e2,e3⟩:=Z.cells j;have c5:=jM j;have a6:=Z.blocks x c5;have x7:fs[k]? =some x.f:=by rw[<-S.out,List.getElem?_map,j];rfl
    have y1: (fs.take (k+1)).any (λf=>f.blocks.any (λi=>decide (m.bl.length<=i)))=((fs.take k).any (λf=>f.blocks.any (λi=>decide (m.bl.length<=i)))||x.f.blocks.any (λi=>decide (m.bl.length<=i))):=by rw[bF,x7,List.any_append];simp
    rw[R.out,Bool.false_or]at y1;have h0:x.f.blocks.any (λi=>decide (m.bl.length<=i))=true->fs.any (λf=>f.blocks.any (λi=>decide (m.bl.length<=i)))=true:=λA=>jm.2 ⟨x.f,jM x7,A⟩
    have d6:x.f.blocks.length<=4000000:=by
     have I:=Qb (jM x7);have T:=h7.out.aJ;dsimp only at T
     omega
    have x8:∀y:World,Below wr.heap.size wr y->Calls prog 44 #[.slice x.a x.f.blocks.length x.c,.func (.func 45) #[] #[.pointer (some ⟨bx,0,none⟩)]] y λe w'=>e=.returned (.bool (x.f.blocks.any (λi=>decide (m.bl.length<=i))))/\Below wr.heap.size wr w':=λy hy=>
     (P9 ((HD.out.later (U.out.trans (G.out.mono U.out.size))).later hy) ((V.out.below G.out V.out.lt).below hy (V.out.below G.out V.out.lt).lt) x.a x.c x.f.blocks (a6.1.later hy) d6).mono (λe w' A=>⟨A.1,hy.trans (A.2.mono hy.size)⟩)
    obtain⟨nz,y8⟩:=jl (x.f.blocks.any (λi=>decide (m.bl.length<=i)));obtain⟨xl,c4⟩:=jl x.f.blocks.length;obtain⟨nv,b4⟩:∃b:ByteArray,sv x.f.name=.string b:=⟨_,rfl⟩;unfold iv at e2;rw[<-y8]at y1 h0 x8;rw[<-c4]at x8 e3;rw[b4]at e0;have z3:=jq x8;have c9:=jq y1;have x5:=jq h0;clear x8 y1 h0 y8 c4 b4 R x7 a6 c5 j Z;cases nz
    ·go_wp2_with (first|(go_at_call 44;refine(z3.out _ (by first|exact(Below.refl _ wr).alloc jn _|exact((Below.refl _ wr).alloc jn _).drew)).mono ?_;rintro e J ⟨rfl,x0⟩;have y2:=jq (G.out.trans (x0.mono G.out.size));clear x0))
     exact⟨⟨k+1,a8,by simp,y2,c9⟩,by simp[intOf];omega⟩
    ·go_wp2_with (first|(go_at_call 44;refine(z3.out _ (by first|exact(Below.refl _ wr).alloc jn _|exact((Below.refl _ wr).alloc jn _).drew)).mono ?_;rintro e J ⟨rfl,x0⟩;have y2:=jq (G.out.trans (x0.mono G.out.size));clear x0))
     go_ret2
     have x2:=U.out.trans (y2.out.mono U.out.size);have O:iG m=(9,m,(ver,next,fs)):=by rw[HO.out];unfold rf;rw[if_pos (x5.out (by trivial))]
     rw[O];exact⟨wv,HD.out.later x2,Upon.of_below x2,λk t=>.inl t,rfl⟩
   ·obtain rfl:n=k:=by omega
    have d5:decide ((n:Int) <(n:Int))=false:=jf (by omega)
    have h0:fs.any (λf=>f.blocks.any (λi=>decide (m.bl.length<=i)))=false:=by
     have I:=R.out;rw[jW (by rw[HN.out,<-S.out,jP];exact aj _)]at I;exact I
    have D:=z5.out.below G.out z5.out.lt;have h4:=V.out.below G.out V.out.lt;have m0:=D.cell 0;have m1:=D.cell 1;have m2:=D.cell 2;have d0:=h4.cell 0
    simp at m0 m1 m2 d0
    have Z:=z2.out.later G.out;have y6:=U.out.trans (G.out.mono U.out.size);have a3:=HD.out.later y6;have x5:=jq h0;have y5:=jq Z;have h6:=jq y6;have y4:=jq a3;have c7:=jq D;have d2:=jq h4;clear h0 Z y6 a3 D h4 R;have hlt:∀b,w.heap.size<=b->b≠d/\b≠g:=λb hb=>⟨λe=>by have:=M.out d (.inl rfl);omega,λe=>by have:=M.out g (.inr (.inl rfl));omega⟩
    have z4:=jq hlt;have y0:=G.out.size;clear hlt
    by_cases hv:ver=0
    ·subst hv;have d7:=run_makeMap (P:=prog) 117 wr
     go_wp2_with fail
     go_ret2
     have O:iG m=(0,m,(0,next,fs)):=by rw[HO.out];unfold rf;rw[if_neg (by rw[x5.out];exact mF),if_pos rfl]
     have h9:Below wr.heap.size wr ((wr.alloc (.map #[] 0)).alloc (.cells #[.pointer (some ⟨d,0,none⟩),.int .u64 0,.int .u32 (next:Int),.slice a n c,.map (some wr.heap.size),.bool false] 119)):=((Below.refl _ wr).alloc jn _).alloc (by simp) _;rw[O];refine⟨wv,y4.out.later h9,(Upon.of_below h6.out).trans (Upon.of_below h9) (λ_ t=>.inl t),λk t=>.inl t,?_⟩;unfold uz;rw[if_pos rfl];exact⟨wr.heap.size+1,wr.heap.size,a,c,l,rfl,S.out,FB h6.out.size y4.out y5.out (λb hb=>⟨(L.out b hb).1,aD (L.out b hb).2 y0⟩) (λx j b hb=>⟨(N.out x j b hb).1,aD (N.out x j b hb).2 y0⟩) (λb hb A=>by have I:=(L.out b hb).1;have T:=M.out b A;omega) (λx j b hb A=>by have I:=(N.out x j b hb).1;have T:=M.out b A;omega) (by rw[<-HN.out];rfl)⟩
    ·have e7:decide (0<ver)=true:=jd (by omega)
     have a9:dw ver next fs=true:=by
      rcases h7.out.may with e|e
      ·exact absurd (congrArg Prod.fst e) hv
      ·exact e
     have x4:=vQ ver next a c l wr y4.out b6 a0 (by rw[c1];exact aC _) y5.out h7.out.ver h7.out.next (λx j=>(h7.out.got x.f (by show x.f∈fs;rw[<-S.out];exact List.mem_map_of_mem j)).fits) (by rw[S.out];exact a9);rw[S.out,<-HN.out]at x4;have O:iG m=((m.dR ver (bI ver next fs)).2,(m.dR ver (bI ver next fs)).1,(ver,next,fs)):=by rw[HO.out];unfold rf;rw[if_neg (by rw[x5.out];exact mF),if_neg hv]
     obtain⟨mm,b0⟩:=jl (m.dR ver (bI ver next fs));rw[<-b0]at x4 O;obtain⟨m',E⟩:=mm;dsimp only at x4 O;have d1:=jq x4;have z7:=jq O;clear x4 O b0 a9
     go_wp2_with fail
     refine d1.out.mono ?_;rintro e J ⟨rfl,wv',a2,h5,b5⟩;have b2:¬Has d g wv mb:=λA=>by have:=M.out mb A;omega
     have b1:¬Has d g wv bx:=λA=>by have I:=M.out bx A;have T:=c6.out;omega
     have D:=c7.out.upon h5 b2;have h4:=d2.out.upon h5 b1;have m0:=D.cell 0;have m1:=D.cell 1;have m2:=D.cell 2;have d0:=h4.cell 0
     simp at m0 m1 m2 d0
     have b9:=h5.size;have y3:=jq a2;have z8:=jq ((Upon.of_below h6.out).trans h5 (λ_ t=>.inl t));have z6:Hid (∀k,wv'.ownBlock=some k->wv.ownBlock=some k\/wr.heap.size<=k):=jq b5;have z9:=jq h5;clear a2 h5 b5 D h4 b2 b1;have b7:Hid (∀k,wv'.ownBlock=some k->wv.ownBlock=some k\/w.heap.size<=k):=jq (λk t=>(z6.out k t).imp id (λh=>ax h6.out.size h));obtain⟨z,R⟩:∃b:Bool,(E==0)=b:=⟨_,rfl⟩;cases z
     ·have y8: (E !=0)=true:=by simpa using R
      have hE:E≠0:=by simpa using R
      have HE:=jq hE;clear hE
      go_wp2_with fail
      go_ret2
      rw[z7.out];refine⟨wv',y3.out,z8.out,b7.out,?_⟩;unfold uz;rw[if_neg HE.out]
      rfl
     ·have hE:E=0:=by simpa using R
      subst hE;have d7:=run_makeMap (P:=prog) 117 J
      go_wp2_with fail
      go_ret2
      have h9:Below J.heap.size J ((J.alloc (.map #[] 0)).alloc (.cells #[.pointer (some ⟨d,0,none⟩),.int .u64 (ver:Int),.int .u32 (next:Int),.slice a n c,.map (some J.heap.size),.bool false] 119)):=((Below.refl _ J).alloc jn _).alloc (by simp) _;have d4:bV J a l:=y5.out.keep b9 (λk t=>z9.out.block k (aD (L.out k t).2 y0) (λA=>by have I:=(L.out k t).1;have T:=M.out k A;omega)) (λx j k t=>z9.out.block k (aD (N.out x j k t).2 y0) (λA=>by have I:=(N.out x j k t).1;have T:=M.out k A;omega))
      have b3:∀b,w.heap.size<=b->b<W.heap.size->¬Has d g wv' b:=λb I T A=>by
       rcases A with e|e|e
       ·exact(z4.out b I).1 e
       ·exact(z4.out b I).2 e
       ·rcases z6.out b e with h3|h3
        ·have:=M.out b (.inr (.inr h3))
         omega
        ·omega
      rw[z7.out];refine⟨wv',y3.out.later h9,z8.out.trans (Upon.of_below h9) (λ_ t=>.inl t),b7.out,?_⟩;unfold uz;rw[if_pos rfl];exact⟨J.heap.size+1,J.heap.size,a,c,l,rfl,S.out,FB (ax h6.out.size b9) y3.out d4 (λb hb=>⟨(L.out b hb).1,by have:=(L.out b hb).2;omega⟩) (λx j b hb=>⟨(N.out x j b hb).1,by have:=(N.out x j b hb).2;omega⟩) (λb hb=>b3 b (L.out b hb).1 (L.out b hb).2) (λx j b hb=>b3 b (N.out x j b hb).1 (N.out x j b hb).2) (by rw[<-HN.out])⟩
end Full
namespace Full
open Go.RowKit Dk aA Go.Proofs.YtndkohocgfmamaaGreatDoor.Read dW
open Store (au none' nv Files)
variable {bl:List (List UInt8)}{b:List UInt8}{n ver:Nat}{fs:List af}{m:DM}
theorem FC(hb:b.length=2048)(h:∀k,k<16->bl[n*16+k]? =some ((b.drop (k*128)).take 128)):gF bl n=b:=by
 have a:∀j,j<=16->mV bl n j=b.take (j*128):=by
  intro j
  induction j with
  |zero=>intro _;simp[mV]
  |succ j c=>
   intro a;rw[zS (h j (by omega)),c (by omega),eY,List.take_add]
 unfold dW.gF;rw[a 16 jn,jW (by omega)]
theorem FD(at_:Nat)(b:List UInt8): ((aP at_ b).map Prod.fst).Nodup:=by
 unfold Dk.aP;rw[List.map_map];refine List.Pairwise.map _ (λx y a=>?_) (List.nodup_range (n:=16));show at_+x≠at_+y;have:x≠y:=a
 omega
theorem FE(at_:Nat)(b:List UInt8){k:Nat}(a:k<16): (at_+k,(b.drop (k*128)).take 128)∈aP at_ b:=List.mem_map.2 ⟨k,List.mem_range.2 a,rfl⟩
theorem FH(ver:Nat){j:Nat}(hb:b.length=2048)(i:33<=bl.length)(o:j<2):gF (puts (puts bl (aP (ver%2*16) b)) (aP ((ver+1)%2*16) b)) j=b:=by
 refine FC hb (λk a=>?_);have h:=fJ ver (show 0<2 by decide)
 by_cases e:j=(ver+1)%2
 ·subst e;exact wm _ _ _ _ (FD _ _) (FE _ _ a) (by rw[mM];omega)
 ·have c:j=ver%2:=by omega
  subst c;rw[nV _ _ _ (λf=>by have:=wu f;omega)];exact wm _ _ _ _ (FD _ _) (FE _ _ a) (by omega)
def Slots(bl:List (List UInt8))(ver next:Nat)(fs:List af):Prop:=
 (ver=0/\next=0/\fs= []/\∀j,j<2->gF bl j=dW.zb 2048)\/∀j,j<2->gF bl j=bI ver next fs
theorem Qf:gX (dW.zb 2048)=none:=by
 unfold gX;rw[dW.FI]
 rfl
theorem Qg: (dW.zb 2048).any (·!=0)=false:=by
 refine Bool.eq_false_iff.2 (λh=>?_);obtain⟨x,c,a⟩:=jm.1 h;unfold dW.zb at c;rw[List.eq_of_mem_replicate c]at a;cases a
theorem Qh{next:Nat}(h:Slots bl ver next fs)(i:dO n ver next fs): (mZ bl=(none,true)/\ver=0/\next=0/\fs= [])\/(mZ bl).1=some (ver,next,fs):=by
 rcases h with⟨c,e,f,a⟩|h
 ·refine .inl ⟨?_,c,e,f⟩;show iU (iU (none,false) (gF bl 0)) (gF bl 1)=_;rw[a 0 (by decide),a 1 (by decide)];unfold iU;rw[Qf,Qg]
  rfl
 ·refine .inr ?_;show(iU (iU (none,false) (gF bl 0)) (gF bl 1)).1=_;rw[h 0 (by decide),h 1 (by decide)];unfold iU;rw[PK i];dsimp only;rw[if_neg (qK _)]
theorem Qi(h:m.aM<0)(ver:Nat)(b:List UInt8): (m.dR ver b).2=0/\(m.dR ver b).1.aM=m.aM:=by
 obtain⟨c,a⟩:=wB h (ver%2*16) b;obtain⟨e,f⟩:=wB (m:=(m.slot (ver%2*16) b).1) (by rw[a];exact h) ((ver+1)%2*16) b;unfold DM.dR;rw[if_pos c];exact⟨e,f.trans a⟩
structure FJ(m m':DM):Prop where
 off:m'.off=m.off
 wt:m'.wt= []
 aM:m'.aM=m.aM
 len:m'.bl.length=m.bl.length
 far:∀i,32<=i->m'.bl[i]? =m.bl[i]?
theorem Qj{next:Nat}(h:Slots m.bl ver next fs)(k:dO m.bl.length ver next fs)(L:m.aM<0)(A:m.wt= [])(J:33<=m.bl.length):∃o,iG m=(0,o,(ver,next,fs))/\FJ m o/\Slots o.bl ver next fs:=by
 have y:FJ m m:=⟨rfl,A,rfl,rfl,λ_ _=>rfl⟩;rcases Qh h k with⟨a,rfl,rfl,rfl⟩|a
 ·refine⟨m,?_,y,h⟩;unfold iG;rw[a]
  rfl
 ·have x: (fs.any (λf=>f.blocks.any (λi=>decide (m.bl.length<=i))))=false:=by
   refine Bool.eq_false_iff.2 (λN=>?_);obtain⟨f,M,t⟩:=jm.1 N;obtain⟨i,v,I⟩:=jm.1 t;have P:=of_decide_eq_true I;have R:=k.pG f M i v
   omega
  by_cases z:ver=0
  ·refine⟨m,?_,y,h⟩;unfold iG;rw[a];dsimp only;rw[x,if_neg mF,if_pos z]
  ·obtain⟨f1,G⟩:=Qi L ver (bI ver next fs);obtain⟨c,D,E⟩:=Ep A f1;refine⟨(m.dR ver (bI ver next fs)).1,?_,⟨D,E,G,by rw[c,mM,mM],λi v=>?_⟩,.inr (λj O=>?_)⟩
   ·unfold iG;rw[a];dsimp only;rw[x,if_neg mF,if_neg z,f1]
   ·have t:=fJ ver (show 0<2 by decide);rw[c,nV _ _ _ (λe=>by have:=wu e;omega),nV _ _ _ (λe=>by have:=wu e;omega)]
   ·rw[c];exact FH ver (yK k.may) J O
theorem Qk{C:au}{next:Nat}(f:m.wt= [])(a:33<=m.bl.length)(e:dO n ver next fs)(h: (di m C fs ver (bI ver next fs)).2=0):Slots (di m C fs ver (bI ver next fs)).1.bl ver next fs:=.inr (λj c=>by
 rw[(wz f h).1];exact FH ver (yK e.may) (by rw[mM];exact a) c)
theorem tN.far{a:List (List UInt8)}{f:af}(h:tN bl f b)(e:∀i∈f.blocks,a[i]? =bl[i]?):tN a f b:=⟨h.size,h.many,λk i c=>by rw[e i (jM c)];exact h.at_ k i c⟩
theorem lU.far{bl a:List (List UInt8)}{n ver next:Nat}{fs:List af}{H:Files}(h:lU bl fs H)(t:dO n ver next fs)(k:∀i,32<=i->a[i]? =bl[i]?):lU a fs H:=⟨λf c=>by
 obtain⟨b,e,j⟩:=h.there f c;exact⟨b,e,j.far (λi o=>k i ((t.ok.each f c).blocks i o).1)⟩,h.none_⟩
end Full
namespace Full
open Go.RowKit Go.Deep Mem Crc Go.Maps Dk aA Go.Proofs.YtndkohocgfmamaaGreatDoor.Read
open Store (au none' nv Files)
variable {m:DM}{ver n:Nat}{C:au}
theorem Ql{B s d g cm:Nat}{w:World}{Q:Nat->Prop}{next:Nat}{fs:List af}{H:Files}(h:On B s d g cm w Q m ver next fs C H n)(z:m.aM<0)(N:Slots m.bl ver next fs):
  Calls prog 16 #[.pointer (some ⟨d,0,none⟩)] w λe w'=>∃s' t Q' i,e=.returned (.tuple #[.pointer (some ⟨s',0,none⟩),.int .i64 0])/\On B s' d g t w' Q' i ver next fs none' H 0/\Slots i.bl ver next fs/\i.bl.length=m.bl.length/\(∀k,Q' k->Q k\/w.heap.size<=k)/\Upon Q w w'/\i.aM<0:=by
 obtain⟨wv,a,c,l,y,hl⟩:=h.fu;obtain⟨i,L,f,O⟩:=Qj N h.ok z h.wt h.big;refine(Qe y.disk h.off h.wt h.big).mono ?_;rintro e w' ⟨A,hD,P,M,o⟩;rw[L]at hD o;unfold uz at o;rw[if_pos rfl]at o;obtain⟨s',t,a',c',l',G,J,I⟩:=o;have j:∀k,Has d g wv k->Q k:=y.qd;have x:Upon Q w w':=P.mono j
 have hq:∀k,(Has d g A k\/(w.heap.size<=k/\k<w'.heap.size))->Q k\/w.heap.size<=k:=λk v=>by
  rcases v with(rfl|rfl|e)|e
  ·exact .inl (j _ (.inl rfl))
  ·exact .inl (j _ (.inr (.inl rfl)))
  ·exact(M k e).imp (λD=>j k (.inr (.inr D))) id
  ·exact .inr e.1
 exact⟨s',t,_,i,G,⟨⟨A,a',c',l',I,J⟩,f.off.trans h.off,f.wt,(by rw[f.len];exact h.big),h.on.far h.ok f.far,(by rw[f.len];exact h.ok),wD 0,λk v=>(hq k v).elim (h.base k) (λE=>ax h.low E),h.tab.below (h.up x) h.pos,h.pos,ax h.low x.size⟩,O,f.len,hq,x,by rw[f.aM];exact z⟩
theorem Qm(N:Nat)(h:33<=N):Slots (D0 N).bl 0 0 []:=.inl ⟨rfl,rfl,rfl,λj a=>by
 refine FC (by unfold dW.zb;exact List.length_replicate) (λk c=>?_);unfold D0 dW.zb;rw[List.getElem?_replicate,if_pos (by omega),List.drop_replicate,List.take_replicate]
 congr 2
 omega⟩
theorem Qn{p:Nat×List af}(f:m.wt= [])(a:33<=m.bl.length)(e:dO n (ver+1) p.1 p.2)(c:m.aM<0):Slots (wF m C ver p).bl (ver+1) p.1 p.2:=
 Qk f a e (wC c C p.2 (ver+1) (bI (ver+1) p.1 p.2)).1
end Full
end Go.Proofs.YtndkohocgfmamaaGreatDoor
