/- Part. -/
import Derived.Test.YtfgjnpbffppocaaGreatDoorF0
import Derived.Test.YtfgjnpbffppocaaGreatDoorF0Q
import Derived.Test.YtfgjnpbffppocaaGreatDoorF3
import Derived.Test.YtfgjnpbffppocaaGreatDoorF4
import Derived.Test.YtfgjnpbffppocaaGreatDoorF14
import Derived.Test.YtfgjnpbffppocaaGreatDoorF19
import Derived.Test.YtfgjnpbffppocaaGreatDoorF23
import Derived.Test.YtfgjnpbffppocaaGreatDoorF31
import Derived.Test.YtfgjnpbffppocaaGreatDoorF38
import Derived.Test.YtfgjnpbffppocaaGreatDoorF39
import Derived.Test.YtfgjnpbffppocaaGreatDoorF40
import Derived.Deep.QuietTactic
set_option maxHeartbeats 4000000
set_option maxRecDepth 200000
namespace Go.Proofs.YtfgjnpbffppocaaGreatDoor
namespace RefF
open Go.RowKit Go.Deep Mem Crc
open Store (nv)
theorem infoP: (Tryz.prog.info? 76).map (λi=>(i.zero,i.size,i.bytes))=some (some (.agg #[.string ⟨#[]⟩,.string ⟨#[]⟩]),2,32):=by kernel_rfl
theorem append_F {base:Nat} (w:World) (ty:TypeId) (v:Value) (l:List FF) (h:w.ownsRow base 76 2 v l.length (flatP l)) (x:FF) (hm:l.length<=1000000) (hb:base<=w.heap.size):
  ∃v' w',(Builtin.append_ #[43,43] ty #[v,.slice (some ⟨w.heap.size,0,none⟩) 1 1]).run Tryz.prog (w.alloc (.cells #[nv x.1,nv x.2] 76))=.ok v' w'/\w'.ownsRow base 76 2 v' (l++ [x]).length (flatP (l++ [x]))/\w.grownBy w' v.ownBlock:=by
 obtain⟨i,hi,hz,h1,h2⟩:=info_parts infoP;have hB:Below w.heap.size w (w.alloc (.cells #[nv x.1,nv x.2] 76)):=(Below.refl _ w).alloc jn _
 obtain⟨v',w',hr,ho,hg,_⟩:=run_append_own (P:=Tryz.prog) (w.alloc (.cells #[nv x.1,nv x.2] 76)) base 43 ty 76 i (.agg #[.string ⟨#[]⟩,.string ⟨#[]⟩]) 2 32 Tryz.underlying43 hi hz h1 h2 rfl (by decide) v l.length (flatP l) (own_later h hB) ⟨w.heap.size,0,none⟩ 1 1 (FF.vs x) rfl (λj u hu=>by
  have:=lies_add (new_lies w 76 #[nv x.1,nv x.2]) j u (by simpa[FF.vs]using hu);exact this) (λu hu=>by
  unfold FF.vs at hu;simp only[List.mem_cons,List.not_mem_nil,or_false]at hu;rcases hu with rfl|rfl <;> rfl) (by unfold maxLen;omega) (by omega) (Nat.le_trans hb hB.size)
 refine⟨v',w',hr,?_,grown_later hB hg⟩;have e:flatP (l++ [x])=flatP l++FF.vs x:=by unfold flatP;rw[List.flatMap_append];simp
 rw[jL,e];exact ho
def withoutP (l:List FF) (nm:List UInt8):List FF:=l.filter (λx=> !(x.1==nm))
theorem neq_str (t:TypeId) (a b:ByteArray):binOp .neq t (.string a) (.string b)=pure (.bool (!(a.toList==b.toList))):=by simp[binOp,Op.stringOp]
end RefF
namespace RefF
open Go.RowKit Go.Deep Mem Crc
open Store (nv)
def stepP (nm b:List UInt8) (s:List FF×Bool) (x:FF):List FF×Bool:=
 if(x.1==nm)=true then s else if s.2=false/\nm<x.1 then(s.1++ [(nm,b),x],true)else(s.1++ [x],s.2)
def foldP (nm b:List UInt8) (l:List FF):List FF×Bool:=l.foldl (stepP nm b) ([],false)
def putP (l:List FF) (nm b:List UInt8):List FF:=if(foldP nm b l).2 then(foldP nm b l).1 else(foldP nm b l).1++ [(nm,b)]
theorem foldP_succ {nm b:List UInt8} {l:List FF} {k:Nat} {x:FF} (h:l[k]? =some x):foldP nm b (l.take (k+1))=stepP nm b (foldP nm b (l.take k)) x:=by
 unfold foldP;rw[List.take_add_one,h,List.foldl_append]
 rfl
theorem foldP_len (nm b:List UInt8) (l:List FF): (foldP nm b l).1.length<=l.length+1:=by
 have h:∀(l:List FF) (s:List FF×Bool),(l.foldl (stepP nm b) s).1.length+(if(l.foldl (stepP nm b) s).2 then 0 else 1)<=s.1.length+(if s.2 then 0 else 1)+l.length:=by
  intro l
  induction l with
  |nil=>intro s;exact Nat.le_refl _
  |cons x r ih=>
   intro s;have h1:=ih (stepP nm b s x)
   have h2: (stepP nm b s x).1.length+(if(stepP nm b s x).2 then 0 else 1)<=s.1.length+(if s.2 then 0 else 1)+1:=by
    unfold stepP
    split
    ·omega
    ·split
     ·rename_i h3 h4
      rw[h4.1]
      simp
     ·dsimp only;rw[jL,List.length_singleton]
      omega
   rw[List.foldl_cons,List.length_cons]
   omega
 have:=h l ([],false)
 simp at this
 unfold foldP
 omega
theorem gtr_lt {x y:List UInt8} {sx sy:ByteArray} (hx:nv x=.string sx) (hy:nv y=.string sy): (!Op.bytesLess sx.toList sy.toList&& !(sx.toList==sy.toList))=decide (y<x):=by
 unfold Store.nv at hx hy;injection hx with hx;injection hy with hy;subst hx hy;rw[Lib.toList_data,Lib.toList_data,bytesLess_eq];show(!decide (x<y)&& !(x==y))=decide (y<x);rw[Bool.eq_iff_iff];simp only[Bool.and_eq_true,Bool.not_eq_true',decide_eq_false_iff_not,beq_eq_false_iff_ne,decide_eq_true_eq]
 constructor
 ·rintro⟨h1,h2⟩;rcases List.le_iff_lt_or_eq.1 (List.not_lt.1 h1)with h3|h3
  ·exact h3
  ·exact absurd h3.symm h2
 ·intro h;exact⟨List.lt_asymm h,λe=>by subst e;exact List.lt_irrefl _ h⟩
theorem gtr_str' (t:TypeId) (a b:ByteArray):binOp .gtr t (.string a) (.string b)=pure (.bool (!Op.bytesLess a.toList b.toList&& !(a.toList==b.toList))):=by simp[binOp,Op.stringOp]
attribute [local go_sem] eql_str gtr_str'
attribute [local go_sem] Oper.semAt_some
theorem put_any (a:Option Addr) (cp:Nat) (l:List FF) (nm b:List UInt8) (w:World) (h:Lies w a (flatP l)) (hn:l.length<=100000):
  Calls Tryz.prog 38 #[.slice a l.length cp,nv nm,nv b] w λe w'=>∃v,e=.returned v/\w'.ownsRow w.heap.size 76 2 v (putP l nm b).length (flatP (putP l nm b))/\Below w.heap.size w w':=by
 obtain⟨n,hnn⟩:=jl l.length;obtain⟨sn,hsn⟩:∃b:ByteArray,nv nm=.string b:=⟨_,rfl⟩;obtain⟨sb,hsb⟩:∃x:ByteArray,nv b=.string x:=⟨_,rfl⟩;rw[<-hnn]at hn⊢;rw[hsn,hsb];have H:=jq h;have HN:=jq hnn;have HSN:=jq hsn;have HSB:=jq hsb;clear h hnn hsn hsb
 go_enter Tryz.func38,Tryz.ntmps38
 go_wp2_with fail
 go_loopw[7,8,13] (λo dn i wr=>∃(k:Nat) (L:List FF) (D:Bool),k<=n/\i=.int .i64 (k:Int)/\dn=.bool D/\L.length<=100001/\Hid (foldP nm b (l.take k)=(L,D))/\Hid (Below w.heap.size w wr)/\Hid (wr.ownsRow w.heap.size 76 2 o L.length (flatP L))) (λ_ _ i _=>n-(intOf i).toNat)
 case atStart=>exact⟨0,[],false,Nat.zero_le _,rfl,rfl,Nat.zero_le _,jq rfl,jq ((Below.refl _ w).alloc jn _),jq (World.ownsRow_lit w #[] 0 jn (by decide) rfl)⟩
 case round=>
  obtain⟨k,L,D,hk,rfl,rfl,hLn,hF,hB,hO⟩:=hrel
  by_cases hkn:k<n
  ·have hkd:decide ((k:Int) <(n:Int))=true:=jd (by omega);obtain⟨x,hx⟩:∃x,l[k]? =some x:=⟨l[k]'(by rw[<-HN.out];exact hkn),jg _⟩;have HX:=jq hx;obtain⟨g,o,rfl,c0,c1⟩:=cells_at (H.out.later hB.out) hx;obtain⟨sx,hsx⟩:∃b:ByteArray,nv x.1=.string b:=⟨_,rfl⟩;obtain⟨sy,hsy⟩:∃b:ByteArray,nv x.2=.string b:=⟨_,rfl⟩;have hst:foldP nm b (l.take (k+1))=stepP nm b (L,D) x:=by rw[foldP_succ hx,hF.out]
   have hbd: (foldP nm b (l.take (k+1))).1.length<=100001:=Nat.le_trans (foldP_len nm b _) (by rw[jT];omega);have hsz:=hB.out.size;obtain⟨q,hq⟩:∃b:Bool,(sx.toList==sn.toList)=b:=⟨_,rfl⟩;obtain⟨lv,hlv⟩:∃b:Bool,Op.bytesLess sx.toList sn.toList=b:=⟨_,rfl⟩;have hq2: (x.1==nm)=q:=by rw[<-str_beq hsx HSN.out];exact hq
   have hg2:decide (nm<x.1)=(!lv&& !q):=by rw[<-gtr_lt hsx HSN.out,hlv,hq]
   have HSX:=jq hsx;have HSY:=jq hsy;rw[hsx]at c0;rw[hsy]at c1;cases q
   ·have hone: (D=true\/lv=true)->foldP nm b (l.take (k+1))=(L++ [x],D):=λhh=>by
     rw[hst];unfold stepP
     rw[if_neg (by rw[hq2];exact Bool.false_ne_true),if_neg (λhc=>by
      rcases hh with h1|h1
      ·rw[h1]at hc;exact Bool.noConfusion hc.1
      ·rw[h1]at hg2;exact(of_decide_eq_false hg2) hc.2)]
    have htwo: (D=false/\lv=false)->foldP nm b (l.take (k+1))=(L++ [(nm,b),x],true):=λhh=>by
     rw[hst];unfold stepP;rw[if_neg (by rw[hq2];exact Bool.false_ne_true),if_pos ⟨hh.1,of_decide_eq_true (by rw[hg2,hh.2];rfl)⟩]
    obtain⟨ov,ow,hr,ho,hg⟩:=append_F wr 43 _ _ hO.out x (by omega) hsz;have hB2:Below w.heap.size w ow:=hB.out.grown hg hsz (λy hy=>(hO.out.lt y hy).1);obtain⟨pv,pw,hrp,hop,hgp⟩:=append_F wr 43 _ _ hO.out (nm,b) (by omega) hsz;have hBp:Below w.heap.size w pw:=hB.out.grown hgp hsz (λy hy=>(hO.out.lt y hy).1);obtain⟨rv,rw_,hrr,hor,hgr⟩:=append_F pw 43 _ _ hop x (by rw[jL,List.length_singleton];omega) hBp.size;have hBr:Below w.heap.size w rw_:=hBp.grown hgr hBp.size (λy hy=>(hop.lt y hy).1);obtain⟨g',o',e',d0,d1⟩:=cells_at (H.out.later hBp) hx;cases e';obtain⟨oa,oc,rfl,_,_,_,_⟩:=own_shape hO.out;obtain⟨pa,pc,rfl,_,_,_,_⟩:=own_shape hop;have eL:L++ [(nm,b),x]=L++ [(nm,b)]++ [x]:=by rw[List.append_assoc];rfl
    obtain⟨ol,hol⟩:=jl L.length;obtain⟨pl,hpl⟩:=jl ((L++ [(nm,b)]).length);rw[<-hol]at hr hrp⊢;rw[<-hpl]at hrp hrr;rw[HSX.out,HSY.out]at hr hrr;rw[HSN.out,HSB.out]at hrp;rw[hsx]at d0;rw[hsy]at d1;have HO2:=jq ho;have HB2:=jq hB2;have HO3:=jq hor;have HB3:=jq hBr;have HONE:=jq hone;have HTWO:=jq htwo;have HBD:=jq hbd;clear hst ho hg hB2 hx hsx hsy hB hO hol hpl hop hgp hBp hor hgr hBr hone htwo hbd hq2 hg2 hF;cases D
    ·cases lv
     rotate_left
     ·go_wp2_with (first|(at_builtin;refine Lib.wpList_append_run _ rfl _ _ _ _ rfl _ _ rfl rfl _ _ hr ?_))
      have h1:=HONE.out (by simp);have h2:=HBD.out;rw[h1]at h2;exact⟨⟨k+1,L++ [x],false,hkn,by simp,rfl,h2,jq h1,HB2,HO2⟩,by simp[intOf];omega⟩
     ·go_wp2_with (first|(at_builtin;refine Lib.wpList_append_run _ rfl _ _ _ _ rfl _ _ rfl rfl _ _ hrp ?_)|(at_builtin;refine Lib.wpList_append_run _ rfl _ _ _ _ rfl _ _ rfl rfl _ _ hrr ?_))
      have h1:=HTWO.out (by simp);have h2:=HBD.out;rw[h1]at h2;exact⟨⟨k+1,L++ [(nm,b),x],true,hkn,by simp,rfl,h2,jq h1,HB3,jq (by rw[eL];exact HO3.out)⟩,by simp[intOf];omega⟩
    ·go_wp2_with (first|(at_builtin;refine Lib.wpList_append_run _ rfl _ _ _ _ rfl _ _ rfl rfl _ _ hr ?_))
     have h1:=HONE.out (by simp);have h2:=HBD.out;rw[h1]at h2;exact⟨⟨k+1,L++ [x],true,hkn,by simp,rfl,h2,jq h1,HB2,HO2⟩,by simp[intOf];omega⟩
   ·have h1:foldP nm b (l.take (k+1))=(L,D):=by
     rw[hst];unfold stepP;rw[if_pos hq2]
    have H1:=jq h1;clear hst h1 hbd hx hsx hsy hq2 hg2 hF
    go_wp2_with fail
    exact⟨⟨k+1,L,D,hkn,by simp,rfl,hLn,H1,hB,hO⟩,by simp[intOf];omega⟩
  ·obtain rfl:n=k:=by omega
   have hkd:decide ((n:Int) <(n:Int))=false:=jf (by omega);have hF2:=hF.out;rw[jW (by rw[HN.out];exact Nat.le_refl _)]at hF2;have hsz:=hB.out.size;have hput:putP l nm b=if D then L else L++ [(nm,b)]:=by unfold putP;rw[hF2]
   obtain⟨pv,pw,hrp,hop,hgp⟩:=append_F wr 43 _ _ hO.out (nm,b) (by omega) hsz;have hBp:Below w.heap.size w pw:=hB.out.grown hgp hsz (λy hy=>(hO.out.lt y hy).1);obtain⟨oa,oc,rfl,_,_,_,_⟩:=own_shape hO.out;obtain⟨ol,hol⟩:=jl L.length;rw[<-hol]at hrp⊢;rw[HSN.out,HSB.out]at hrp;have HOP:=jq hop;have HBP:=jq hBp;have HPUT:=jq hput;have HOL:=jq hol;clear hF hF2 hop hBp hgp hput hol;cases D
   ·go_wp2_with (first|(at_builtin;refine Lib.wpList_append_run _ rfl _ _ _ _ rfl _ _ rfl rfl _ _ hrp ?_))
    go_ret
    rw[HPUT.out];exact⟨_,rfl,HOP.out,HBP.out⟩
   ·go_wp2_with fail
    go_ret
    rw[HPUT.out];exact⟨_,rfl,by rw[HOL.out];exact hO.out,hB.out⟩
end RefF
namespace RefF
open Go.RowKit
open Store (Files)
structure IsRow (l:List FF) (F:Files):Prop where
 rise:l.Pairwise (λx y=>x.1<y.1)
 mem:∀nm b,(nm,b)∈l↔F nm=some b
theorem IsRow.uniq {l l2:List FF} {F:Files} (h:IsRow l F) (h2:IsRow l2 F):l=l2:=by
 have hm:∀x,x∈l↔x∈l2:=λx=>(h.mem x.1 x.2).trans (h2.mem x.1 x.2).symm
 have key:∀(l l2:List FF),l.Pairwise (λx y=>x.1<y.1)->l2.Pairwise (λx y=>x.1<y.1)->(∀x,x∈l↔x∈l2)->l=l2:=by
  intro l
  induction l with
  |nil=>
   intro l2 _ _ hm
   cases l2 with
   |nil=>rfl
   |cons y r=>exact absurd ((hm y).2 (by simp)) (List.not_mem_nil)
  |cons x r ih=>
   intro l2 p1 p2 hm
   cases l2 with
   |nil=>exact absurd ((hm x).1 (by simp)) (List.not_mem_nil)
   |cons y r2=>
    obtain⟨a1,a2⟩:=List.pairwise_cons.1 p1;obtain⟨b1,b2⟩:=List.pairwise_cons.1 p2
    have hxy:x=y:=by
     rcases List.mem_cons.1 ((hm x).1 (by simp))with e|e
     ·exact e
     ·rcases List.mem_cons.1 ((hm y).2 (by simp))with e2|e2
      ·exact e2.symm
      ·exact absurd (b1 x e) (List.lt_asymm (a1 y e2))
    subst hxy;refine congrArg _ (ih r2 a2 b2 (λz=>?_))
    constructor
    ·intro hz;rcases List.mem_cons.1 ((hm z).1 (List.mem_cons_of_mem _ hz))with e|e
     ·subst e;exact absurd (a1 z hz) (List.lt_irrefl _)
     ·exact e
    ·intro hz;rcases List.mem_cons.1 ((hm z).2 (List.mem_cons_of_mem _ hz))with e|e
     ·subst e;exact absurd (b1 z hz) (List.lt_irrefl _)
     ·exact e
 exact key l l2 h.rise h2.rise hm
theorem IsRow.none_ {l:List FF} {F:Files} (h:IsRow l F) (nm:List UInt8):F nm=none↔∀x∈l,x.1≠nm:=by
 constructor
 ·intro hf x hx e;have:=(h.mem x.1 x.2).1 hx;rw[e,hf]at this;cases this
 ·intro hx
  cases hf:F nm with
  |none=>rfl
  |some b=>exact absurd rfl (hx (nm,b) ((h.mem nm b).2 hf))
theorem isRow_none:IsRow [] (λ_=>none):=⟨List.Pairwise.nil,λnm b=>by simp⟩
theorem IsRow.without {l:List FF} {F:Files} (h:IsRow l F) (nm:List UInt8):IsRow (withoutP l nm) (λx=>if x=nm then none else F x):=by
 refine⟨h.rise.sublist List.filter_sublist,λx b=>?_⟩;unfold withoutP;rw[List.mem_filter,h.mem]
 by_cases e:x=nm
 ·subst e
  simp
 ·simp[e]
theorem IsRow.find {l:List FF} {F:Files} (h:IsRow l F) (nm:List UInt8): (findP l nm<l.length↔F nm≠none)/\∀b,F nm=some b->l[findP l nm]? =some (nm,b):=by
 cases hf:F nm with
 |none=>
  have h1:=(h.none_ nm).1 hf;have h2:findP l nm=l.length:=findP_none (λj hj y hy=>h1 y (jM hy));rw[h2]
  simp
 |some b=>
  have hm:=(h.mem nm b).2 hf;obtain⟨j,hj⟩:=List.mem_iff_getElem?.1 hm;have hjl:=(jS.1 hj)
  have hp:findP l nm=j:=findP_eq hj rfl (λi hi y hy e=>by
   have hyl:=jS.1 hy;have:=List.pairwise_iff_getElem.1 h.rise i j hyl.1 hjl.1 hi;rw[hyl.2,hjl.2,e]at this;exact List.lt_irrefl _ this)
  rw[hp];exact⟨⟨λ_=>by simp,λ_=>hjl.1⟩,λb' e=>by cases e;exact hj⟩
end RefF
namespace RefF
open Go.RowKit
open Store (Files)
theorem fold_on (nm b:List UInt8):∀(l acc:List FF),(∀x∈l,nm<x.1)->l.foldl (stepP nm b) (acc,true)=(acc++l,true)
 | [],acc,_=>by simp
 |x ::r,acc,h=>by
  have hx:=h x (by simp)
  have hne: (x.1==nm)=false:=by
   rw[beq_eq_false_iff_ne];intro e;rw[e]at hx;exact List.lt_irrefl _ hx
  have e:stepP nm b (acc,true) x=(acc++ [x],true):=by
   unfold stepP;rw[hne,if_neg Bool.false_ne_true,if_neg (λhc=>Bool.noConfusion hc.1)]
  rw[List.foldl_cons,e,fold_on nm b r (acc++ [x]) (λy hy=>h y (by simp[hy])),List.append_assoc]
  rfl
def endP (nm b:List UInt8) (s:List FF×Bool):List FF:=if s.2 then s.1 else s.1++ [(nm,b)]
theorem fold_put (nm b:List UInt8):∀(l acc:List FF),l.Pairwise (λx y=>x.1<y.1)->endP nm b (l.foldl (stepP nm b) (acc,false))=acc++(l.filter (λx=>decide (x.1<nm))++(nm,b)::l.filter (λx=>decide (nm<x.1)))
 | [],acc,_=>by simp[endP]
 |x ::r,acc,hp=>by
  obtain⟨h1,h2⟩:=List.pairwise_cons.1 hp;rw[List.foldl_cons]
  by_cases e:x.1=nm
  ·have hs:stepP nm b (acc,false) x=(acc,false):=by
    unfold stepP;rw[if_pos (by simpa using e)]
   have e1:decide (x.1<nm)=false:=jf (by rw[e];exact List.lt_irrefl _);have e2:decide (nm<x.1)=false:=jf (by rw[e];exact List.lt_irrefl _);rw[hs,fold_put nm b r acc h2,List.filter_cons,List.filter_cons,e1,e2]
   rfl
  ·have hne: (x.1==nm)=false:=by rw[beq_eq_false_iff_ne];exact e
   by_cases hlt:nm<x.1
   ·have hs:stepP nm b (acc,false) x=(acc++ [(nm,b),x],true):=by
     unfold stepP;rw[hne,if_neg Bool.false_ne_true,if_pos ⟨rfl,hlt⟩]
    have hr:∀y∈r,nm<y.1:=λy hy=>List.lt_trans hlt (h1 y hy)
    have hlo: (x ::r).filter (λx=>decide (x.1<nm))= []:=List.filter_eq_nil_iff.2 (λy hy=>by
     have:nm<y.1:=by
      rcases List.mem_cons.1 hy with rfl|hy
      ·exact hlt
      ·exact hr y hy
     simpa using List.lt_asymm this)
    have hhi: (x ::r).filter (λx=>decide (nm<x.1))=x ::r:=List.filter_eq_self.2 (λy hy=>by
     have:nm<y.1:=by
      rcases List.mem_cons.1 hy with rfl|hy
      ·exact hlt
      ·exact hr y hy
     exact jd this)
    rw[hs,fold_on nm b r _ hr,hlo,hhi];unfold endP;rw[if_pos rfl]
    simp
   ·have hlt2:x.1<nm:=by
     rcases List.le_iff_lt_or_eq.1 (List.not_lt.1 hlt)with h3|h3
     ·exact h3
     ·exact absurd h3 e
    have hs:stepP nm b (acc,false) x=(acc++ [x],false):=by
     unfold stepP;rw[hne,if_neg Bool.false_ne_true,if_neg (λhc=>hlt hc.2)]
    have e1:decide (x.1<nm)=true:=jd hlt2;have e2:decide (nm<x.1)=false:=jf hlt;rw[hs,fold_put nm b r (acc++ [x]) h2,List.filter_cons,List.filter_cons,e1,e2,List.append_assoc]
    rfl
theorem putP_eq {l:List FF} (h:l.Pairwise (λx y=>x.1<y.1)) (nm b:List UInt8):putP l nm b=l.filter (λx=>decide (x.1<nm))++(nm,b)::l.filter (λx=>decide (nm<x.1)):=by
 have:=fold_put nm b l [] h;rw[List.nil_append]at this;exact this
theorem IsRow.put {l:List FF} {F:Files} (h:IsRow l F) (nm b:List UInt8):IsRow (putP l nm b) (λx=>if x=nm then some b else F x):=by
 rw[putP_eq h.rise];refine⟨List.pairwise_append.2 ⟨h.rise.sublist List.filter_sublist,List.pairwise_cons.2 ⟨λy hy=>?_,h.rise.sublist List.filter_sublist⟩,λx hx y hy=>?_⟩,λx c=>?_⟩
 ·exact of_decide_eq_true (List.mem_filter.1 hy).2
 ·have hx2:x.1<nm:=of_decide_eq_true (List.mem_filter.1 hx).2;rcases List.mem_cons.1 hy with rfl|hy
  ·exact hx2
  ·exact List.lt_trans hx2 (of_decide_eq_true (List.mem_filter.1 hy).2)
 ·rw[List.mem_append,List.mem_cons,List.mem_filter,List.mem_filter,h.mem,decide_eq_true_eq,decide_eq_true_eq]
  by_cases e:x=nm
  ·subst e;rw[if_pos rfl]
   constructor
   ·rintro(⟨_,h2⟩|h2|⟨_,h2⟩)
    ·exact absurd h2 (List.lt_irrefl _)
    ·cases h2;rfl
    ·exact absurd h2 (List.lt_irrefl _)
   ·intro h2;cases h2;exact .inr (.inl rfl)
  ·rw[if_neg e]
   constructor
   ·rintro(⟨h1,_⟩|h2|⟨h1,_⟩)
    ·exact h1
    ·cases h2;exact absurd rfl e
    ·exact h1
   ·intro h1
    by_cases hlt:x<nm
    ·exact .inl ⟨h1,hlt⟩
    ·rcases List.le_iff_lt_or_eq.1 (List.not_lt.1 hlt)with h3|h3
     ·exact .inr (.inr ⟨h1,h3⟩)
     ·exact absurd h3.symm e
end RefF
namespace RefF
open Go.RowKit Full
open Store (Chg none' nv Files setC setC_same setC_other)
theorem nowF_set (C:Chg) (H:Files) (nm:List UInt8) (o:Option (List UInt8)):nowF (setC C nm (some o)) H=λx=>if x=nm then o else nowF C H x:=by
 funext x
 by_cases e:x=nm
 ·subst e;rw[if_pos rfl];unfold nowF;rw[setC_same]
 ·rw[if_neg e];unfold nowF;rw[setC_other _ e]
theorem nowF_none (H:Files):nowF none' H=H:=by
 funext x
 rfl
theorem IsRow.write {l:List FF} {C:Chg} {H:Files} (h:IsRow l (nowF C H)) (nm b:List UInt8):IsRow (putP l nm b) (nowF (setC C nm (some (some b))) H):=by
 rw[nowF_set];exact h.put nm b
theorem IsRow.remove {l:List FF} {C:Chg} {H:Files} (h:IsRow l (nowF C H)) (nm:List UInt8):IsRow (withoutP l nm) (nowF (setC C nm (some none)) H):=by
 rw[nowF_set];exact h.without nm
theorem IsRow.was {l:List FF} {C:Chg} {H:Files} (h:IsRow l (nowF C H)) (nm:List UInt8): (ansF (nowF C H nm)).1=if findP l nm<l.length then(l.getD (findP l nm) ([],[])).2 else []:=by
 obtain⟨h1,h2⟩:=h.find nm
 cases hf:nowF C H nm with
 |none=>rw[if_neg (λhc=>h1.1 hc hf)];rfl
 |some b=>
  rw[if_pos (h1.2 (by rw[hf];exact λe=>by cases e)),List.getD_eq_getElem?_getD,h2 b hf]
  rfl
theorem IsRow.names {l:List FF} {F:Files} (h:IsRow l F) {ss:List (List UInt8)} (hp:ss.Pairwise (·< ·)) (hm:∀nm,nm∈ss↔F nm≠none):l.map Prod.fst=ss:=by
 have h2:IsRow (ss.map λnm=>(nm,(F nm).getD [])) F:=by
  refine⟨List.pairwise_map.2 (hp.imp (λh=>h)),λnm b=>?_⟩;rw[List.mem_map]
  constructor
  ·rintro⟨x,hx,e⟩;cases e;have:=(hm nm).1 hx
   cases hf:F nm with
   |none=>exact absurd hf this
   |some c=>rfl
  ·intro hf;exact⟨nm,(hm nm).2 (by rw[hf];exact λe=>by cases e),by rw[hf];rfl⟩
 rw[h.uniq h2,List.map_map];exact List.map_id _
end RefF
namespace Full
open Go.RowKit Go.Deep Mem Crc Go.Maps Dk Mani RefF
open Store (Chg none' nv Files Sto setC setF)
open Ext (Tab)
variable {B s d g cm:Nat} {w:World} {Q:Nat->Prop} {m:DM} {ver next:Nat} {fs:List Fil} {C:Chg} {H:Files} {n:Nat}
theorem nowF_setF (C:Chg) (H:Files) (nm:List UInt8) (o:Option (List UInt8)):nowF (setC C nm (some o)) H=setF (nowF C H) nm o:=by
 rw[nowF_set]
 funext x
 unfold setF
 by_cases e:x=nm
 ·simp only[if_pos e]
 ·simp only[if_neg e]
theorem On.stays {w':World} (h:On B s d g cm w Q m ver next fs C H n) (hs:w.heap.size<=w'.heap.size) (hk:∀k,Q k\/k=0->w'.heap[k]? =w.heap[k]?):On B s d g cm w' Q m ver next fs C H n:=by
 obtain⟨wv,a,c,l,hf,hl⟩:=h.fu;exact⟨⟨wv,a,c,l,hf.keep hs (λk hq=>hk k (.inl hq)),hl⟩,h.off,h.wt,h.big,h.on,h.ok,h.few,h.base,λj hj=>(World.cell?_of_block (hk 0 (.inr rfl))).trans (h.tab j hj),h.pos,Nat.le_trans h.low hs⟩
theorem On.short (h:On B s d g cm w Q m ver next fs C H n) {nm b:List UInt8} (hb:nowF C H nm=some b):nm.length<=32/\b.length<=1048576:=by
 obtain⟨L,l1,l2,l3,l4⟩:=h.few;unfold nowF at hb
 cases hc:C nm with
 |some o=>
  rw[hc]at hb;dsimp only at hb;exact⟨l3 nm (l1 nm (by rw[hc];exact λe=>by cases e)),l4 nm b (by rw[hc,hb])⟩
 |none=>
  rw[hc]at hb;dsimp only at hb;have hm:nm∈fs.map Fil.name:=Classical.byContradiction (λe=>by rw[h.on.none_ nm e]at hb;cases hb);obtain⟨f,hf,rfl⟩:=List.mem_map.1 hm;obtain⟨b',h1,h2⟩:=h.on.there f hf;rw[hb]at h1;cases h1;have h3:=h.ok.fit f hf;have h4:=many_le (h.ok.ok.each f hf).many;have h5:=bksL_mem hf;have h6:=h.ok.few;refine⟨h3.1,?_⟩;have h7:b.length=f.size:=h2.size.symm
  omega
structure AtG (B s d g cm:Nat) (m:DM) (ver next:Nat) (fs:List Fil) (H:Files) (w:World) (Q:Nat->Prop) (off:Bool) (F:Files) (n:Nat):Prop where
 on:∃(C:Chg) (k:Nat) (Q0:Nat->Prop),On B s d g cm w Q0 m ver next fs C H k/\F=nowF C H/\k+20000<=n/\∀x,Q x↔Q0 x\/x=0
 up:off=false
 few:n<=100000
end Full
namespace Read
open Go.RowKit Mani Varint Full
abbrev St:=List UInt8×Int
def numS (most:Nat) (s:St):Nat×St:=if s.2=0 then((numG most 0 0 s.1).1,(s.1.drop (numG most 0 0 s.1).2.1,(numG most 0 0 s.1).2.2))else(0,s)
def bytesS (n:Nat) (s:St):List UInt8×St:=if s.2=0 then(if s.1.length<n then([],(s.1,2))else(s.1.take n,(s.1.drop n,0)))else([],s)
def blocksS:Nat->St->List Nat->List Nat×St
 |0,s,acc=>(acc,s)
 |k+1,s,acc=>if s.2=0 then blocksS k (numS 65536 s).2 (acc++ [(numS 65536 s).1])else(acc,s)
def headS (s:St):Fil×St:=
 let a:=numS 32 s
 let b:=bytesS a.1 a.2
 let c:=numS 4294967295 b.2
 let d:=numS 7340032 c.2
 (⟨b.1,c.1,d.1,[]⟩,d.2)
def fileS (s:St):Fil×St:=
 let h:=headS s
 let b:=blocksS (Mani.many h.1.size) h.2 []
 ({h.1 with blocks:=b.1},b.2)
def filesS:Nat->St->List Fil->List Fil×St
 |0,s,acc=>(acc,s)
 |k+1,s,acc=>if s.2=0 then filesS k (fileS s).2 (acc++ [(fileS s).1])else(acc,s)
structure Man where
 ver:Nat
 next:Nat
 fs:List Fil
 err:Int
def readS (b:List UInt8):Man:=
 let a:=numS 18446744073709551615 (b,0)
 let c:=numS 4294967295 a.2
 let n:=numS 2048 c.2
 let f:=filesS n.1 n.2 []
 ⟨a.1,c.1,f.1,endE f.2.1 f.2.2⟩
theorem bitLen_fit {n i:Nat} (h:n*2^(7*i) <2^64) (h2:7*i<=64):i*7+Lib.bitLen n<=64:=by
 have h3:n<2^(64-7*i):=by
  have e:2^64=2^(64-7*i)*2^(7*i):=by rw[<-Nat.pow_add];congr 1;omega
  rw[e]at h;exact Nat.lt_of_mul_lt_mul_right h
 have:=Lib.bitLen_le n (64-7*i) (by omega) h3
 omega
theorem byte_low {n:Nat} (h:n<128): (UInt8.ofNat n).toNat=n:=by simp;omega
theorem byte_high (n:Nat): (UInt8.ofNat (n%128+128)).toNat=n%128+128:=by
 have:=Nat.mod_lt n (show 0<128 by decide)
 simp
 omega
theorem numG_put (most:Nat) (rest:List UInt8):∀(n i N:Nat),N+n*2^(7*i) <2^64->N+n*2^(7*i)<=most->(i=0\/0<n)->numG most i N (vput n++rest)=(N+n*2^(7*i),i+(vput n).length,0):=by
 intro n
 induction n using Nat.strongRecOn with
 |ind n ih=>
  intro i N h1 h2 h3;have hpos:0<2^(7*i):=Nat.pow_pos (by decide)
  have h7:7*i<=64:=by
   rcases h3 with h3|h3
   ·omega
   ·refine Classical.byContradiction λhc=>?_
    have a1:2^64<=2^(7*i):=Nat.pow_le_pow_right (by decide) (by omega);have a2:2^(7*i)<=n*2^(7*i):=Nat.le_mul_of_pos_left _ h3
    omega
  by_cases hl:n<128
  ·rw[vput_low hl];have hb:=bitLen_fit (n:=n) (i:=i) (by omega) h7;have e1:n%128=n:=Nat.mod_eq_of_lt hl;show numG most i N (UInt8.ofNat n ::rest)=_;unfold numG;rw[byte_low hl,e1,if_neg (by omega),if_neg (by omega),if_neg (by omega)]
   rfl
  ·rw[vput_high (by omega)];have hm:n%128<128:=Nat.mod_lt _ (by decide);have hdm:=Nat.div_add_mod n 128;have hle:n%128*2^(7*i)<=n*2^(7*i):=Nat.mul_le_mul_right _ (Nat.mod_le _ _);have hb:=bitLen_fit (n:=n%128) (i:=i) (by omega) h7;have e1: (n%128+128)%128=n%128:=by omega
   have e2:2^(7*(i+1))=128*2^(7*i):=by rw[show 7*(i+1)=7+7*i by omega,Nat.pow_add]
   have e3:N+n%128*2^(7*i)+n/128*2^(7*(i+1))=N+n*2^(7*i):=by
    rw[e2,<-Nat.mul_assoc,Nat.add_assoc,<-Nat.add_mul]
    congr 2
    omega
   show numG most i N (UInt8.ofNat (n%128+128)::(vput (n/128)++rest))=_;unfold numG;rw[byte_high,e1,if_neg (by omega),if_pos (by omega),ih (n/128) (by omega) (i+1) _ (by rw[e3];exact h1) (by rw[e3];exact h2) (.inr (by omega)),e3,List.length_cons]
   congr 2
   omega
theorem numS_put {n most:Nat} (h:n<=most) (h2:n<18446744073709551616) (rest:List UInt8):numS most (vput n++rest,0)=(n,(rest,0)):=by
 have:=numG_put most rest n 0 0 (by simpa using h2) (by simpa using h) (.inl rfl);simp only[Nat.mul_zero,Nat.pow_zero,Nat.mul_one,Nat.zero_add]at this;unfold numS;rw[if_pos rfl];dsimp only;rw[this];dsimp only;rw[List.drop_left]
theorem bytesS_put (nm rest:List UInt8):bytesS nm.length (nm++rest,0)=(nm,(rest,0)):=by
 unfold bytesS;rw[if_pos rfl];dsimp only;rw[if_neg (by rw[jL];omega),List.take_left,List.drop_left]
theorem blocksS_put (rest:List UInt8):∀(l acc:List Nat),(∀i∈l,i<=65536)->blocksS l.length (blocksL l++rest,0) acc=(acc++l,(rest,0))
 | [],acc,_=>by show(acc,(rest,(0:Int)))=_;rw[List.append_nil]
 |i ::r,acc,h=>by
  have hi:=h i (by simp);have e:blocksL (i ::r)++rest=vput i++(blocksL r++rest):=by unfold Mani.blocksL;rw[jC,List.append_assoc]
  rw[e,List.length_cons];unfold blocksS;rw[if_pos rfl,numS_put hi (by omega),blocksS_put rest r _ (λj hj=>h j (by simp[hj])),List.append_assoc]
  rfl
structure FFit (f:Fil):Prop where
 name:f.name.length<=32
 id:f.id<=4294967295
 size:f.size<=7340032
 many:Mani.many f.size=f.blocks.length
 blocks:∀i∈f.blocks,i<=65536
theorem fileS_put {f:Fil} (h:FFit f) (rest:List UInt8):fileS (filL f++rest,0)=(f,(rest,0)):=by
 have e:filL f++rest=vput f.name.length++(f.name++(vput f.id++(vput f.size++(blocksL f.blocks++rest)))):=by unfold Mani.filL;simp only[List.append_assoc]
 have hd:headS (filL f++rest,0)=(⟨f.name,f.id,f.size,[]⟩,(blocksL f.blocks++rest,0)):=by
  unfold headS;rw[e,numS_put h.name (by have:=h.name;omega)];dsimp only;rw[bytesS_put];dsimp only;rw[numS_put h.id (by have:=h.id;omega)];dsimp only;rw[numS_put h.size (by have:=h.size;omega)]
 unfold fileS;rw[hd];dsimp only;rw[h.many,blocksS_put rest f.blocks [] h.blocks]
 rfl
theorem filesS_put (rest:List UInt8):∀(fs acc:List Fil),(∀f∈fs,FFit f)->filesS fs.length (fs.flatMap filL++rest,0) acc=(acc++fs,(rest,0))
 | [],acc,_=>by show(acc,(rest,(0:Int)))=_;rw[List.append_nil]
 |f ::r,acc,h=>by
  have e: (f ::r).flatMap filL++rest=filL f++(r.flatMap filL++rest):=by rw[jC,List.append_assoc]
  rw[e,List.length_cons];unfold filesS;rw[if_pos rfl,fileS_put (h f (by simp)),filesS_put rest r _ (λg hg=>h g (by simp[hg])),List.append_assoc]
  rfl
theorem readS_put {ver next:Nat} {fs:List Fil} (hv:ver<18446744073709551616) (hn:next<4294967296) (hl:fs.length<=2048) (h:∀f∈fs,FFit f):readS (bodyL ver next fs)=⟨ver,next,fs,0⟩:=by
 unfold readS;have e:bodyL ver next fs=vput ver++(vput next++(vput fs.length++fs.flatMap filL)):=rfl;rw[e,numS_put (by omega) hv];dsimp only;rw[numS_put (by omega) (by omega)];dsimp only;rw[numS_put hl (by omega)];dsimp only;have:=filesS_put [] fs [] h;rw[List.append_nil,List.nil_append]at this;rw[this]
 rfl
theorem okm_fit {n ver next:Nat} {fs:List Fil} (h:Okm n ver next fs):∀f∈fs,FFit f:=λf hf=>by
 have h1:=h.fit f hf;have h2:=h.size f hf;have h3:=h.ok.each f hf;have h4:=h1.2.1.id;exact⟨h1.1,by omega,by omega,h3.many,λi hi=>by have:=h1.2.2 i hi;omega⟩
theorem readS_okm {n ver next:Nat} {fs:List Fil} (h:Okm n ver next fs):readS (bodyL ver next fs)=⟨ver,next,fs,0⟩:=by
 have:=h.few;exact readS_put h.ver h.next (by omega) (okm_fit h)
theorem numG_le (most:Nat):∀(bs:List UInt8) (i n:Nat),(numG most i n bs).1<=most/\(numG most i n bs).2.1<=i+bs.length/\((numG most i n bs).2.2=0->i<(numG most i n bs).2.1)
 | [],i,n=>⟨Nat.zero_le _,Nat.zero_le _,λh=>by cases h⟩
 |c ::r,i,n=>by
  unfold numG
  split
  ·exact⟨Nat.zero_le _,Nat.zero_le _,λh=>by cases h⟩
  ·split
   ·obtain⟨h1,h2,h3⟩:=numG_le most r (i+1) (n+c.toNat%128*2^(7*i));exact⟨h1,by rw[List.length_cons];omega,λh=>by have:=h3 h;omega⟩
   ·split
    ·exact⟨Nat.zero_le _,Nat.zero_le _,λh=>by cases h⟩
    ·rename_i h1
     exact⟨by omega,by rw[List.length_cons];show i+1<=_;omega,λ_=>Nat.lt_succ_self _⟩
theorem numS_le (most:Nat) (s:St): (numS most s).1<=most/\(numS most s).2.1.length<=s.1.length/\((numS most s).2.2=0->(numS most s).2.1.length<s.1.length):=by
 unfold numS
 by_cases h:s.2=0
 ·rw[if_pos h];obtain⟨h1,h2,h3⟩:=numG_le most s.1 0 0;refine⟨h1,by rw[List.length_drop];omega,λh4=>?_⟩;have h5:=h3 h4;show(s.1.drop _).length<_;rw[List.length_drop]
  omega
 ·rw[if_neg h];exact⟨Nat.zero_le _,Nat.le_refl _,λh2=>absurd h2 h⟩
theorem bytesS_le (n:Nat) (s:St): (bytesS n s).1.length<=n/\(bytesS n s).2.1.length<=s.1.length:=by
 unfold bytesS
 split
 ·split
  ·exact⟨Nat.zero_le _,Nat.le_refl _⟩
  ·exact⟨by rw[jT];omega,by rw[List.length_drop];omega⟩
 ·exact⟨Nat.zero_le _,Nat.le_refl _⟩
theorem blocksS_le:∀(k:Nat) (s:St) (acc:List Nat),(∀i∈acc,i<=65536)->(∀i∈(blocksS k s acc).1,i<=65536)/\(blocksS k s acc).2.1.length<=s.1.length/\(blocksS k s acc).1.length+(blocksS k s acc).2.1.length<=acc.length+s.1.length+1
 |0,s,acc,h=>⟨h,Nat.le_refl _,by show acc.length+s.1.length<=_;omega⟩
 |k+1,s,acc,h=>by
  unfold blocksS
  by_cases hs:s.2=0
  ·rw[if_pos hs];obtain⟨n1,n2,n3⟩:=numS_le 65536 s
   have hacc:∀i∈acc++ [(numS 65536 s).1],i<=65536:=λi hi=>by
    rcases List.mem_append.1 hi with hi|hi
    ·exact h i hi
    ·rw[jE.1 hi];exact n1
   by_cases hz: (numS 65536 s).2.2=0
   ·obtain⟨b1,b2,b3⟩:=blocksS_le k (numS 65536 s).2 _ hacc;have:=n3 hz;rw[jL,List.length_singleton]at b3;exact⟨b1,by omega,by omega⟩
   ·have e:blocksS k (numS 65536 s).2 (acc++ [(numS 65536 s).1])=(acc++ [(numS 65536 s).1],(numS 65536 s).2):=by
     cases k with
     |zero=>rfl
     |succ k=>unfold blocksS;rw[if_neg hz]
    rw[e];refine⟨hacc,n2,?_⟩;dsimp only;rw[jL,List.length_singleton]
    omega
  ·rw[if_neg hs];exact⟨h,Nat.le_refl _,by show acc.length+s.1.length<=_;omega⟩
structure FGot (f:Fil):Prop where
 name:f.name.length<=32
 id:f.id<=4294967295
 size:f.size<=7340032
 blocks:∀i∈f.blocks,i<=65536
theorem fileS_le (s:St):FGot (fileS s).1/\(fileS s).1.blocks.length+(fileS s).2.1.length<=s.1.length+1:=by
 unfold fileS headS;dsimp only;obtain⟨a1,a2,_⟩:=numS_le 32 s;obtain⟨b1,b2⟩:=bytesS_le (numS 32 s).1 (numS 32 s).2;obtain⟨c1,c2,_⟩:=numS_le 4294967295 (bytesS (numS 32 s).1 (numS 32 s).2).2;obtain⟨d1,d2,_⟩:=numS_le 7340032 (numS 4294967295 (bytesS (numS 32 s).1 (numS 32 s).2).2).2;obtain⟨e1,e2,e3⟩:=blocksS_le (Mani.many (numS 7340032 (numS 4294967295 (bytesS (numS 32 s).1 (numS 32 s).2).2).2).1) (numS 7340032 (numS 4294967295 (bytesS (numS 32 s).1 (numS 32 s).2).2).2).2 [] (λi hi=>by cases hi);refine⟨⟨by show(bytesS _ _).1.length<=32;omega,c1,d1,e1⟩,?_⟩;rw[List.length_nil]at e3
 omega
theorem filesS_le:∀(k:Nat) (s:St) (acc:List Fil),(∀f∈acc,FGot f)->(∀f∈(filesS k s acc).1,FGot f)/\(filesS k s acc).1.length<=acc.length+k/\(bksL (filesS k s acc).1).length+(filesS k s acc).2.1.length<=(bksL acc).length+s.1.length+k
 |0,s,acc,h=>⟨h,Nat.le_refl _,Nat.le_refl _⟩
 |k+1,s,acc,h=>by
  unfold filesS
  by_cases hs:s.2=0
  ·rw[if_pos hs];obtain⟨g1,g2⟩:=fileS_le s
   obtain⟨f1,f2,f3⟩:=filesS_le k (fileS s).2 (acc++ [(fileS s).1]) (λf hf=>by
    rcases List.mem_append.1 hf with hf|hf
    ·exact h f hf
    ·rw[jE.1 hf];exact g1)
   have e: (bksL (acc++ [(fileS s).1])).length=(bksL acc).length+(fileS s).1.blocks.length:=by
    unfold Mani.bksL;rw[List.flatMap_append,jL]
    simp
   rw[e]at f3;rw[jL,List.length_singleton]at f2;exact⟨f1,by omega,by omega⟩
  ·rw[if_neg hs];exact⟨h,by show acc.length<=_;omega,by show(bksL acc).length+s.1.length<=_;omega⟩
theorem readS_le (b:List UInt8): (readS b).ver<=18446744073709551615/\(readS b).next<=4294967295/\(∀f∈(readS b).fs,FGot f)/\(readS b).fs.length<=2048/\(bksL (readS b).fs).length<=b.length+2048:=by
 unfold readS;dsimp only;obtain⟨a1,a2,_⟩:=numS_le 18446744073709551615 (b,0);obtain⟨b1,b2,_⟩:=numS_le 4294967295 (numS 18446744073709551615 (b,0)).2;obtain⟨c1,c2,_⟩:=numS_le 2048 (numS 4294967295 (numS 18446744073709551615 (b,0)).2).2;obtain⟨f1,f2,f3⟩:=filesS_le (numS 2048 (numS 4294967295 (numS 18446744073709551615 (b,0)).2).2).1 (numS 2048 (numS 4294967295 (numS 18446744073709551615 (b,0)).2).2).2 [] (λf hf=>by cases hf);have e: (bksL ([]:List Fil)).length=0:=rfl;rw[e]at f3;rw[List.length_nil]at f2;dsimp only at a2;exact⟨a1,b1,f1,by omega,by omega⟩
theorem body_got {ver next:Nat} {fs:List Fil} (hv:ver<=18446744073709551615) (hn:next<=4294967295) (hf:∀f∈fs,FGot f) (hl:fs.length<=2048) (hb: (bksL fs).length<=250000): (bodyL ver next fs).length<=900000:=by
 have a1:=vput_length 9 ver (by omega);have a2:=vput_length 4 next (by omega);have a3:=vput_length 9 fs.length (by omega)
 have a4:∀l:List Nat,(∀i∈l,i<=65536)->(blocksL l).length<=3*l.length:=by
  intro l
  induction l with
  |nil=>intro _;exact Nat.le_refl _
  |cons i r ih=>
   intro h;have b1:=vput_length 2 i (by have:=h i (by simp);omega);have b2:=ih (λj hj=>h j (by simp[hj]));unfold Mani.blocksL at b2⊢;rw[jC,jL,List.length_cons]
   omega
 have a5:∀l:List Fil,(∀f∈l,FGot f)->(l.flatMap filL).length<=60*l.length+3*(bksL l).length:=by
  intro l
  induction l with
  |nil=>intro _;exact Nat.le_refl _
  |cons f r ih=>
   intro h;have g:=h f (by simp);have b1:=vput_length 0 f.name.length (by have:=g.name;omega);have b2:=vput_length 4 f.id (by have:=g.id;omega);have b3:=vput_length 4 f.size (by have:=g.size;omega);have b4:=a4 f.blocks g.blocks;have b5:=ih (λx hx=>h x (by simp[hx]));have b6:=g.name;have e: (bksL (f ::r)).length=f.blocks.length+(bksL r).length:=by unfold Mani.bksL;rw[jC,jL]
   have e2: (filL f).length=(vput f.name.length).length+(f.name.length+((vput f.id).length+((vput f.size).length+(blocksL f.blocks).length))):=by
    unfold Mani.filL;simp only[jL]
   rw[e,jC,jL,List.length_cons,e2]
   omega
 have a6:=a5 fs hf;unfold Mani.bodyL;simp only[jL]
 omega
def getS (bs:List UInt8):Option (Nat×Nat×List Fil):=
 if(Frame.got bs).2.2.2=0/\(Frame.got bs).1=77 then
  (if(readS (Frame.got bs).2.1).err=0/\mayB (readS (Frame.got bs).2.1).ver (readS (Frame.got bs).2.1).next (readS (Frame.got bs).2.1).fs=true then some ((readS (Frame.got bs).2.1).ver,(readS (Frame.got bs).2.1).next,(readS (Frame.got bs).2.1).fs)else none)
 else none
theorem num_head (k:UInt8) (n:Nat) (h:n<=1048576):Frame.num (Frame.head k n)=n:=by
 unfold Frame.num Frame.head;simp only[List.getD_cons_succ,List.getD_cons_zero,UInt8.toNat_ofNat']
 omega
open Crc in
theorem got_long (k:UInt8) (b rest:List UInt8) (hb:b.length<=1048576):Frame.got (Frame.frameL k b++rest)=(k,b,13+b.length,0):=by
 have hl:=Frame.frameL_length k b;have hh: (marked (Frame.head k b.length)).length=9:=by rw[mark_length];rfl
 have hm: (marked b).length=b.length+4:=mark_length b;have e0:Frame.frameL k b++rest=marked (Frame.head k b.length)++(marked b++rest):=by unfold Frame.frameL;rw[List.append_assoc]
 have e1: (Frame.frameL k b++rest).take 9=marked (Frame.head k b.length):=by rw[e0,<-hh,List.take_left]
 have e2: (Frame.frameL k b++rest).drop 9=marked b++rest:=by rw[e0,<-hh,List.drop_left]
 have e3: (marked b++rest).take (b.length+4)=marked b:=by rw[<-hm,List.take_left]
 have h1:=(fits_mark (Frame.head k b.length)).2;have h2:=(fits_mark b).2;have e4:bodyOf (marked (Frame.head k b.length))=Frame.head k b.length:=bodyOf_mark _;have hl2: (Frame.frameL k b++rest).length=13+b.length+rest.length:=by rw[jL,hl];omega
 unfold Frame.got;rw[e1,e2,e4,num_head k b.length hb,e3,h1,h2,bodyOf_mark,hl2];rw[if_neg (by omega),if_neg (by decide),if_neg (by omega),if_neg (by omega),if_neg (by decide)]
 rfl
theorem getS_man {n ver next:Nat} {fs:List Fil} (h:Okm n ver next fs):getS (manL ver next fs)=some (ver,next,fs):=by
 have hs:=may_short h.may;have hg:=got_long 77 (bodyL ver next fs) (List.replicate (2035-(bodyL ver next fs).length) 0) (by omega);unfold getS Mani.manL;rw[hg];dsimp only;rw[if_pos ⟨rfl,rfl⟩,readS_okm h];dsimp only;rw[if_pos ⟨rfl,h.may⟩]
end Read
namespace Read
open Go.RowKit Go.Deep Mem Crc Mani Full
theorem append_int {base:Nat} (w:World) (ty:TypeId) (v:Value) (l:List Nat) (h:w.ownsRow base 3 1 v l.length (l.map iv)) (x:Nat) (hm:l.length<=1000000) (hb:base<=w.heap.size):
  ∃v' w',(Builtin.append_ #[104,104] ty #[v,.slice (some ⟨w.heap.size,0,none⟩) 1 1]).run Tryz.prog (w.alloc (.cells #[iv x] 3))=.ok v' w'/\w'.ownsRow base 3 1 v' (l++ [x]).length ((l++ [x]).map iv)/\w.grownBy w' v.ownBlock:=by
 obtain⟨i,hi,hz,h1,h2⟩:=info_parts Ext.infoI;have hB:Below w.heap.size w (w.alloc (.cells #[iv x] 3)):=(Below.refl _ w).alloc jn _
 obtain⟨v',w',hr,ho,hg,_⟩:=run_append_own (P:=Tryz.prog) (w.alloc (.cells #[iv x] 3)) base 104 ty 3 i (.int .i64 0) 1 8 Tryz.underlying104 hi hz h1 h2 rfl (by decide) v l.length (l.map iv) (own_later h hB) ⟨w.heap.size,0,none⟩ 1 1 [iv x] rfl (λj u hu=>by
  have:=lies_add (new_lies w 3 #[iv x]) j u hu;exact this) (λu hu=>by rw[jE.1 hu];rfl) (by unfold maxLen;omega) (by omega) (Nat.le_trans hb hB.size)
 refine⟨v',w',hr,?_,grown_later hB hg⟩;rw[jL,List.map_append];exact ho
theorem append_file {base:Nat} (w:World) (ty:TypeId) (v:Value) (l:List FR) (h:w.ownsRow base 106 4 v l.length (flatF l)) (x:FR) (hm:l.length<=1000000) (hb:base<=w.heap.size):
  ∃v' w',(Builtin.append_ #[99,99] ty #[v,.slice (some ⟨w.heap.size,0,none⟩) 1 1]).run Tryz.prog (w.alloc (.cells x.vs.toArray 106))=.ok v' w'/\w'.ownsRow base 106 4 v' (l++ [x]).length (flatF (l++ [x]))/\w.grownBy w' v.ownBlock:=by
 obtain⟨i,hi,hz,h1,h2⟩:=info_parts infoF;have hB:Below w.heap.size w (w.alloc (.cells x.vs.toArray 106)):=(Below.refl _ w).alloc jn _
 obtain⟨v',w',hr,ho,hg,_⟩:=run_append_own (P:=Tryz.prog) (w.alloc (.cells x.vs.toArray 106)) base 99 ty 106 i (.agg #[.string ⟨#[]⟩,.int .u32 0,.int .i64 0,.slice none 0 0]) 4 56 Tryz.underlying99 hi hz h1 h2 rfl (by decide) v l.length (flatF l) (own_later h hB) ⟨w.heap.size,0,none⟩ 1 1 x.vs rfl (λj u hu=>by
  have:=lies_add (new_lies w 106 x.vs.toArray) j u (by simpa using hu);exact this) (λu hu=>by
  unfold FR.vs at hu;simp only[List.mem_cons,List.not_mem_nil,or_false]at hu;rcases hu with rfl|rfl|rfl|rfl <;> rfl) (by unfold maxLen;omega) (by omega) (Nat.le_trans hb hB.size)
 refine⟨v',w',hr,?_,grown_later hB hg⟩;have e:flatF (l++ [x])=flatF l++x.vs:=by unfold flatF;rw[List.flatMap_append];simp
 rw[jL,e];exact ho
structure RS (w:World) (r q rd ver next:Nat) (u:Value) (l:List FR) (s:St) (W:World):Prop where
 below:Below w.heap.size w W
 res:Blk W r 101 #[.int .u64 0,.int .u32 0,.slice none 0 0]
 man:Blk W q 101 #[.int .u64 (ver:Int),.int .u32 (next:Int),u]
 row:W.ownsRow w.heap.size 106 4 u l.length (flatF l)
 blocks:∀x∈l,NewRow w.heap.size W x
 rd:Rd w.heap.size W rd s.1 s.2
 gq:w.heap.size<=q
 gr:w.heap.size<=r
 ne:q≠r
variable {w W W':World} {r q rd ver next:Nat} {u u':Value} {l l':List FR} {s s':St}
theorem Rd.blk {B:Nat} {rd:Nat} {bs:List UInt8} {e:Int} (h:Rd B W rd bs e):∃cs,Blk W rd 242 cs/\B<=rd:=by
 obtain⟨a,cap,h1,_,_,_,_,h6⟩:=h;exact⟨_,h1,h6⟩
theorem RS.upon (h:RS w r q rd ver next u l s W) {X:Nat->Prop} (hu:Upon X W W') (hX:∀k,X k->w.heap.size<=k) (h1:¬X r) (h2:¬X q) (h3:∀k,u.ownBlock=some k->¬X k) (h4:∀x∈l,∀k,(Value.slice x.a x.f.blocks.length x.c).ownBlock=some k->¬X k) (h5:¬X rd):RS w r q rd ver next u l s W':=
 ⟨h.below.trans (hu.below h.below.size hX),h.res.upon hu h1,h.man.upon hu h2,own_upon h.row hu h3,λx hx=>own_upon (h.blocks x hx) hu (h4 x hx),h.rd.upon hu h5 hX,h.gq,h.gr,h.ne⟩
theorem RS.later (h:RS w r q rd ver next u l s W) (hB:Below W.heap.size W W'):RS w r q rd ver next u l s W':=
 h.upon (X:=λ_=>False) (Upon.of_below hB) (λ_ hf=>hf.elim) id id (λ_ _=>id) (λ_ _ _ _=>id) id
theorem RS.readU (h:RS w r q rd ver next u l s W) (hu:Upon (λk=>k=rd) W W') (hr:Rd w.heap.size W' rd s'.1 s'.2):RS w r q rd ver next u l s' W':=by
 obtain⟨cs,hb,hg⟩:=h.rd.blk;have hX:∀k,k=rd->w.heap.size<=k:=λk e=>by rw[e];exact hg
 exact⟨h.below.trans (hu.below h.below.size hX),h.res.upon hu (h.res.ne hb (by decide)),h.man.upon hu (h.man.ne hb (by decide)),own_upon h.row hu (λk hk e=>own_ne_blk h.row hb (by decide) (e▸hk)),λx hx=>own_upon (h.blocks x hx) hu (λk hk e=>own_ne_blk (h.blocks x hx) hb (by decide) (e▸hk)),hr,h.gq,h.gr,h.ne⟩
theorem RS.read (h:RS w r q rd ver next u l s W) (ho:Only [rd] W W') (hr:Rd w.heap.size W' rd s'.1 s'.2):RS w r q rd ver next u l s' W':=
 h.readU (Upon.of_only ho (λ_ hg=>.inl (jE.1 hg))) hr
theorem RS.other (h:RS w r q rd ver next u l s W) {v:Value} {e:TypeId} {sz n:Nat} {xs:List Value} (ho:W.ownsRow w.heap.size e sz v n xs) (hg:W.grownBy W' v.ownBlock) (h1:e≠101) (h2:e≠106) (h3:e≠242) (h4:∀x∈l,∀k,(Value.slice x.a x.f.blocks.length x.c).ownBlock=some k->v.ownBlock≠some k):RS w r q rd ver next u l s W':=by
 obtain⟨cs,hb,_⟩:=h.rd.blk;exact h.upon (X:=λk=>v.ownBlock=some k) (Upon.of_grown hg (λg hg=>.inl hg)) (λk hk=>(ho.lt k hk).1) (own_ne_blk ho h.res h1) (own_ne_blk ho h.man h1) (λk hk e=>own_ne_own h.row ho h2.symm hk e) (λx hx k hk e=>h4 x hx k hk e) (own_ne_blk ho hb h3)
theorem RS.rowed (h:RS w r q rd ver next u l s W) (hg:W.grownBy W' u.ownBlock) (hrow:W'.ownsRow w.heap.size 106 4 u' l'.length (flatF l')) (hb:∀x∈l',x∈l\/NewRow w.heap.size W x):RS w r q rd ver next u' l' s (W'.setCell ⟨q,2,none⟩ u'):=by
 obtain⟨cs,hrb,hrg⟩:=h.rd.blk;have hu:Upon (λk=>u.ownBlock=some k) W W':=Upon.of_grown hg (λg hg=>.inl hg);have hX:∀k,u.ownBlock=some k->w.heap.size<=k:=λk hk=>(h.row.lt k hk).1
 have hman:=h.man.upon hu (own_ne_blk h.row h.man (by decide));have hres:=h.res.upon hu (own_ne_blk h.row h.res (by decide))
 have hbl:∀x∈l',NewRow w.heap.size W' x:=λx hx=>by
  have hn:NewRow w.heap.size W x:=(hb x hx).elim (h.blocks x) id;exact own_upon hn hu (λk hk e=>own_ne_own h.row hn (by decide) e hk)
 have hrd:=h.rd.upon hu (own_ne_blk h.row hrb (by decide)) hX;have hu2:Upon (λk=>k=q) W' (W'.setCell ⟨q,2,none⟩ u'):=(Upon.refl (λk=>k=q) W').set (p:=⟨q,2,none⟩) (.inl rfl) _;obtain⟨cs2,hrb2,_⟩:=hrd.blk;have hBW:=h.below.trans (hu.below h.below.size hX);exact⟨hBW.setCell h.gq _,hres.far (Ne.symm h.ne) _,hman.set 2 _,own_far hrow (own_ne_blk hrow hman (by decide)) _,λx hx=>own_far (hbl x hx) (own_ne_blk (hbl x hx) hman (by decide)) _,hrd.upon hu2 (hrb2.ne hman (by decide)) (λk e=>by rw[e];exact h.gq),h.gq,h.gr,h.ne⟩
theorem RS.files (h:RS w r q rd ver next u l s W):∃a c,u=.slice a l.length c/\FilesIn W a l/\(∀b,Mem.blk a=some b->w.heap.size<=b/\b<W.heap.size)/\∀x∈l,∀b,Mem.blk x.a=some b->w.heap.size<=b/\b<W.heap.size:=by
 obtain⟨a,c,rfl,_,hL,hg,_⟩:=own_shape h.row;refine⟨a,c,rfl,⟨hL,λx hx=>?_⟩,hg,λx hx b hb=>?_⟩
 ·obtain⟨a2,c2,e,hc,hL2,_,_⟩:=own_shape (h.blocks x hx);cases e;exact⟨hL2,hc⟩
 ·obtain⟨a2,c2,e,hc,hL2,hg2,_⟩:=own_shape (h.blocks x hx);cases e;exact hg2 b hb
structure BS (w:World) (r q rd ver next:Nat) (u:Value) (l:List FR) (fb:Nat) (nm:Value) (id sz:Nat) (bu:Value) (acc:List Nat) (s:St) (W:World):Prop where
 rs:RS w r q rd ver next u l s W
 box:Blk W fb 106 #[nm,.int .u32 (id:Int),.int .i64 (sz:Int),bu]
 bl:W.ownsRow fb 3 1 bu acc.length (acc.map iv)
 gf:w.heap.size<=fb
 lu:∀k,u.ownBlock=some k->k<fb
 lx:∀x∈l,∀k,(Value.slice x.a x.f.blocks.length x.c).ownBlock=some k->k<fb
variable {fb id sz id' sz':Nat} {nm bu bu':Value} {acc acc':List Nat}
theorem BS.start (h:RS w r q rd ver next u l s W) (nm:Value) (id sz:Nat):BS w r q rd ver next u l W.heap.size nm id sz (.slice none 0 0) [] s (W.alloc (.cells #[nm,.int .u32 (id:Int),.int .i64 (sz:Int),.slice none 0 0] 106)):=
 ⟨h.later ((Below.refl _ W).alloc jn _),Blk.new W _ _,World.ownsRow_nil _ _ _ _,h.below.size,λk hk=>(h.row.lt k hk).2,λx hx k hk=>(World.ownsRow.lt (h.blocks x hx) k hk).2⟩
theorem BS.upon (h:BS w r q rd ver next u l fb nm id sz bu acc s W) {X:Nat->Prop} (hu:Upon X W W') (hX:∀k,X k->fb<k\/k=fb) (h1:¬X r) (h2:¬X q) (h5:¬X rd):RS w r q rd ver next u l s W':=
 h.rs.upon hu (λk hk=>by have:=h.gf;have:=hX k hk;omega) h1 h2 (λk hk hx=>by have:=h.lu k hk;have:=hX k hx;omega) (λx hx k hk hxk=>by have:=h.lx x hx k hk;have:=hX k hxk;omega) h5
theorem BS.readU (h:BS w r q rd ver next u l fb nm id sz bu acc s W) (hu:Upon (λk=>k=rd) W W') (hr:Rd w.heap.size W' rd s'.1 s'.2):BS w r q rd ver next u l fb nm id sz bu acc s' W':=by
 obtain⟨cs,hb,hg⟩:=h.rs.rd.blk;exact⟨h.rs.readU hu hr,h.box.upon hu (h.box.ne hb (by decide)),own_upon h.bl hu (λk hk e=>own_ne_blk h.bl hb (by decide) (e▸hk)),h.gf,h.lu,h.lx⟩
theorem BS.read (h:BS w r q rd ver next u l fb nm id sz bu acc s W) (ho:Only [rd] W W') (hr:Rd w.heap.size W' rd s'.1 s'.2):BS w r q rd ver next u l fb nm id sz bu acc s' W':=
 h.readU (Upon.of_only ho (λ_ hg=>.inl (jE.1 hg))) hr
theorem BS.later (h:BS w r q rd ver next u l fb nm id sz bu acc s W) (hB:Below W.heap.size W W'):BS w r q rd ver next u l fb nm id sz bu acc s W':=
 ⟨h.rs.later hB,h.box.below hB h.box.lt,own_later h.bl hB,h.gf,h.lu,h.lx⟩
theorem BS.set (h:BS w r q rd ver next u l fb nm id sz bu acc s W) (i:Nat) (v:Value) (hb:Blk (W.setCell ⟨fb,i,none⟩ v) fb 106 #[nm,.int .u32 (id':Int),.int .i64 (sz':Int),bu']) (hr:W.ownsRow fb 3 1 bu' acc'.length (acc'.map iv)):BS w r q rd ver next u l fb nm id' sz' bu' acc' s (W.setCell ⟨fb,i,none⟩ v):=by
 obtain⟨cs,hrb,hg⟩:=h.rs.rd.blk;have hu:Upon (λk=>k=fb) W (W.setCell ⟨fb,i,none⟩ v):=(Upon.refl (λk=>k=fb) W).set (p:=⟨fb,i,none⟩) (.inl rfl) _;exact⟨h.upon hu (λk hk=>.inr hk) (h.rs.res.ne h.box (by decide)) (h.rs.man.ne h.box (by decide)) (hrb.ne h.box (by decide)),hb,own_far hr (own_ne_blk hr h.box (by decide)) _,h.gf,h.lu,h.lx⟩
theorem BS.grow (h:BS w r q rd ver next u l fb nm id sz bu acc s W) (hg:W.grownBy W' bu.ownBlock) (hr:W'.ownsRow fb 3 1 bu' acc'.length (acc'.map iv)):BS w r q rd ver next u l fb nm id sz bu' acc' s (W'.setCell ⟨fb,3,none⟩ bu'):=by
 obtain⟨cs,hrb,hrg⟩:=h.rs.rd.blk;have hu:Upon (λk=>bu.ownBlock=some k) W W':=Upon.of_grown hg (λg hg=>.inl hg);have hrs:=h.upon hu (λk hk=>by have h1:=(h.bl.lt k hk).1;rcases Nat.lt_or_eq_of_le h1 with h2|h2;exact .inl h2;exact .inr h2.symm) (own_ne_blk h.bl h.rs.res (by decide)) (own_ne_blk h.bl h.rs.man (by decide)) (own_ne_blk h.bl hrb (by decide));have hbx:=h.box.upon hu (own_ne_blk h.bl h.box (by decide));have h2:BS w r q rd ver next u l fb nm id sz bu [] s W'->BS w r q rd ver next u l fb nm id sz bu' acc' s (W'.setCell ⟨fb,3,none⟩ bu'):=λh3=>h3.set 3 bu' (hbx.set 3 bu') hr
 obtain⟨cs2,hrb2,_⟩:=hrs.rd.blk;have hu2:Upon (λk=>k=fb) W' (W'.setCell ⟨fb,3,none⟩ bu'):=(Upon.refl (λk=>k=fb) W').set (p:=⟨fb,3,none⟩) (.inl rfl) _;refine⟨hrs.upon hu2 (λk hk=>by rw[hk];exact h.gf) (hrs.res.ne hbx (by decide)) (hrs.man.ne hbx (by decide)) (λk hk e=>by have:=h.lu k hk;omega) (λx hx k hk e=>by have:=h.lx x hx k hk;omega) (hrb2.ne hbx (by decide)),hbx.set 3 bu',own_far hr (own_ne_blk hr hbx (by decide)) _,h.gf,h.lu,h.lx⟩
end Read
namespace Read
open Go.RowKit Go.Deep Mem Crc Mani Full
open Store (nv)
theorem numS_any {B:Nat} {w:World} {r:Nat} {s:St} (h:Rd B w r s.1 s.2) (most:Nat) (hm:most<18446744073709551616):
  Calls Tryz.prog 136 #[.pointer (some ⟨r,0,none⟩),.int .u64 (most:Int)] w λe w'=>e=.returned (.int .u64 ((numS most s).1:Int))/\Rd B w' r (numS most s).2.1 (numS most s).2.2/\Only [r] w w':=by
 unfold numS
 by_cases hz:s.2=0
 ·rw[if_pos hz];rw[hz]at h;exact num_any h most hm
 ·rw[if_neg hz];refine(num_bad h hz most).mono ?_;rintro e w' ⟨rfl,rfl⟩;exact⟨rfl,h,Only.refl _ _⟩
theorem bytesS_any {B:Nat} {w:World} {r:Nat} {s:St} (h:Rd B w r s.1 s.2) (n:Nat) (hn:n<=1000000):
  Calls Tryz.prog 138 #[.pointer (some ⟨r,0,none⟩),.int .i64 (n:Int)] w λe w'=>∃v,e=.returned v/\OwnB w' w.heap.size v (bytesS n s).1/\Rd B w' r (bytesS n s).2.1 (bytesS n s).2.2/\Upon (λk=>k=r) w w':=by
 obtain⟨bs,k⟩:=s;unfold bytesS;dsimp only at h⊢
 by_cases hz:k=0
 ·subst hz;rw[if_pos rfl];obtain⟨a,cap,hb,h2,h3,h4,h5,h6⟩:=id h;have c0:=hb.cell 0;have c1:=hb.cell 1;have z0:=hb.frozen 0
  simp at c0 c1
  obtain⟨L,hL⟩:=jl bs.length;rw[<-hL]at c0 h2 h3;have hn0:decide ((n:Int) <0)=false:=jf (by omega)
  by_cases hlt:L<n
  ·rw[<-hL,if_pos hlt];have hd:decide ((L:Int) <(n:Int))=true:=jd (by omega);have HBAD:=jq (bad_any h 2 (by decide));clear h hb h4 h5 h6 hL
   go_enter Tryz.func138,Tryz.ntmps138
   go_wp2_with fail
   refine HBAD.out.mono ?_;rintro e w1 ⟨rfl,hR,hO⟩;have HR:=jq hR;have HO:=jq hO;clear hR hO HBAD
   go_wp2_with fail
   go_ret
   exact⟨_,rfl,World.ownsRow_nil _ _ _ _,HR.out,Upon.of_only HO.out (λg hg=>.inl (jE.1 hg))⟩
  ·rw[<-hL,if_neg hlt];have hd:decide ((L:Int) <(n:Int))=false:=jf (by omega);obtain⟨a',hsl,hblk,hsl2⟩:=slice_low a L cap n (by omega) h2;have htl: (bs.take n).length=n:=by rw[jT];omega
   have hcl:=clone_any a cap (bs.take n) w (by rw[List.map_take];exact h4.take n) (by rw[htl];omega);rw[htl]at hcl;have HCL:=jq hcl;have HB:=jq hb;have H4:=jq h4;have H5:=jq h5;have HSL2:=jq hsl2;have HBLK:=jq hblk;have HL:=jq hL;have H6:=jq h6;clear h hb h4 h5 h6 hL hcl hsl2 hblk
   go_enter Tryz.func138,Tryz.ntmps138
   go_wp2_with fail
   refine HCL.out.mono ?_;rintro e w1 ⟨v,rfl,hO,hB1⟩;have hb1:=HB.out.below hB1 HB.out.lt;have c0:=hb1.cell 0;have z0:=hb1.frozen 0
   simp at c0
   rw[<-HL.out]at c0;have hu:Upon (λq=>q=r) w1 (w1.setCell ⟨r,0,none⟩ (.slice a' (L-n) (cap-n))):=(Upon.refl (λq=>q=r) w1).set (p:=⟨r,0,none⟩) (.inl rfl) _
   have hRn:Rd B (w1.setCell ⟨r,0,none⟩ (.slice a' (L-n) (cap-n))) r (bs.drop n) 0:=by
    have hbl:=hb1.set 0 (.slice a' (L-n) (cap-n));have hl2: (bs.drop n).length=L-n:=by rw[List.length_drop,HL.out]
    refine⟨a',cap-n,by rw[hl2];exact hbl,by rw[hl2];omega,by rw[hl2];omega,?_,λq hq=>H5.out q (by rw[<-HBLK.out];exact hq),H6.out⟩
    exact((HSL2.out w bs HL.out.symm H4.out).later hB1).upon hu (λq hq e=>by
     have:=H5.out q (by rw[<-HBLK.out];exact hq);have:=H6.out
     omega)
   have hOn:OwnB (w1.setCell ⟨r,0,none⟩ (.slice a' (L-n) (cap-n))) w.heap.size v (bs.take n):=own_far hO (own_ne_blk hO hb1 (by decide)) _;have hun:Upon (λq=>q=r) w (w1.setCell ⟨r,0,none⟩ (.slice a' (L-n) (cap-n))):=(Upon.of_below hB1).trans hu (λq hq=>.inl hq);have HRN:=jq hRn;have HON:=jq hOn;have HUN:=jq hun;clear hb1 hu hRn hOn hun hO hB1 HCL
   go_wp2_with fail
   go_ret
   exact⟨v,rfl,HON.out,HRN.out,HUN.out⟩
 ·rw[if_neg hz];obtain⟨a,cap,hb,h2,h3,h4,h5,h6⟩:=id h;have c1:=hb.cell 1
  simp at c1
  have hk': (k==0)=false:=by simpa using hz
  have HR:=jq h;clear h hb h4 h5
  go_enter Tryz.func138,Tryz.ntmps138
  go_wp2_with fail
  go_ret
  exact⟨_,rfl,World.ownsRow_nil _ _ _ _,HR.out,Upon.refl _ _⟩
end Read
namespace Read
open Go.RowKit Go.Deep Mem Crc Mani Full
open Store (nv)
theorem conv_b {va:Option Addr} {vc:Nat} {b:List UInt8} {w:World} (hL:Lies w va (b.map bv)): (convert 27 9 (.slice va b.length vc)).run Tryz.prog w=.ok (sv b) w:=by
 cases va with
 |none=>
  have e0:b= []:=by
   rcases hL with h|⟨g,o,h,_⟩
   ·exact List.map_eq_nil_iff.1 h
   ·cases h
  subst e0;show(convert 27 9 (.slice none 0 vc)).run Tryz.prog w=.ok (.string ⟨#[]⟩) w
  kernel_rfl
 |some ad=>exact run_convert_bytes_back w 27 9 5 _ vc _ Tryz.underlying27 Tryz.underlying5 Tryz.underlying9 (λj hj=>lies_add hL j _ (by simp[hj,bv]))
def ReadsM (w:World) (M:Man) (e:Ending) (w':World):Prop:=Below w.heap.size w w'/\∃(a:Option Addr) (c:Nat) (l:List FR),e=.returned (.tuple #[.agg #[.int .u64 (M.ver:Int),.int .u32 (M.next:Int),.slice a l.length c],.int .i64 M.err])/\l.map FR.f=M.fs/\FilesIn w' a l/\(∀b,Mem.blk a=some b->w.heap.size<=b/\b<w'.heap.size)/\∀x∈l,∀b,Mem.blk x.a=some b->w.heap.size<=b/\b<w'.heap.size
theorem RS.gives {w W:World} {r q rd ver next:Nat} {a:Option Addr} {n c:Nat} {l:List FR} {s:St} {F:List Fil×St} (h:RS w r q rd ver next (.slice a n c) l s W) (hF: (l.map FR.f,s)=F):
  ReadsM w ⟨ver,next,F.1,endE F.2.1 F.2.2⟩ (.returned (.tuple #[.agg #[.int .u64 (ver:Int),.int .u32 (next:Int),.slice a n c],.int .i64 (endE s.1 s.2)])) (((W.setCell ⟨r,0,none⟩ (.int .u64 (ver:Int))).setCell ⟨r,1,none⟩ (.int .u32 (next:Int))).setCell ⟨r,2,none⟩ (.slice a n c)):=by
 subst hF;have h1:=own_ne_blk h.row h.res (by decide);have hrow:=own_far (own_far (own_far h.row h1 (p:=⟨r,0,none⟩) (.int .u64 (ver:Int))) h1 (p:=⟨r,1,none⟩) (.int .u32 (next:Int))) h1 (p:=⟨r,2,none⟩) (.slice a n c);obtain⟨a2,c2,e,_,hL,hg,_⟩:=own_shape hrow;cases e;refine⟨below_res h.below h.gr _ _ _,a,c,l,rfl,rfl,⟨hL,λx hx=>?_⟩,hg,λx hx b hb=>?_⟩
 ·have h2:=own_ne_blk (h.blocks x hx) h.res (by decide);obtain⟨a3,c3,e3,hc3,hL3,_,_⟩:=own_shape (own_far (own_far (own_far (h.blocks x hx) h2 (p:=⟨r,0,none⟩) (.int .u64 (ver:Int))) h2 (p:=⟨r,1,none⟩) (.int .u32 (next:Int))) h2 (p:=⟨r,2,none⟩) (.slice a l.length c));cases e3;exact⟨hL3,hc3⟩
 ·obtain⟨a3,c3,e3,_,_,hg3,_⟩:=own_shape (h.blocks x hx);cases e3;have:=hg3 b hb
  simpa using this
attribute [local go_sem] Oper.semAt_some
theorem read_any (a:Option Addr) (cap:Nat) (bs:List UInt8) (w:World) (hc:bs.length<=cap) (hn:bs.length<=100000) (hL:Lies w a (bs.map bv)) (ha:∀k,Mem.blk a=some k->k<w.heap.size):
  Calls Tryz.prog 111 #[.slice a bs.length cap] w (ReadsM w (readS bs)):=by
 obtain⟨s0,hs0⟩:∃s:St,s=(bs,0):=⟨_,rfl⟩;obtain⟨s1,hs1⟩:=jl ((numS 18446744073709551615 s0).2);obtain⟨ver,hver⟩:=jl ((numS 18446744073709551615 s0).1);obtain⟨s2,hs2⟩:=jl ((numS 4294967295 s1).2);obtain⟨next,hnext⟩:=jl ((numS 4294967295 s1).1);obtain⟨s3,hs3⟩:=jl ((numS 2048 s2).2);obtain⟨cnt,hcnt⟩:=jl ((numS 2048 s2).1);obtain⟨F,hF⟩:=jl (filesS cnt s3 [])
 have hM:readS bs=⟨ver,next,F.1,endE F.2.1 F.2.2⟩:=by
  rw[hF,hcnt,hs3,hnext,hs2,hver,hs1,hs0]
  rfl
 rw[hM];have hnext2:next<=4294967295:=by rw[hnext];exact(numS_le _ _).1
 have hcnt2:cnt<=2048:=by rw[hcnt];exact(numS_le _ _).1
 have hnw:IntKind.u32.wrap (next:Int)=(next:Int):=by rw[IntKind.wrap_u32];omega
 obtain⟨W0,hW0⟩:=jl (w.alloc (.cells #[.int .u64 0,.int .u32 0,.slice none 0 0] 101));obtain⟨r,hr⟩:=jl w.heap.size;have hB0:Below w.heap.size w W0:=by rw[hW0];exact(Below.refl _ w).alloc jn _
 have hres:Blk W0 r 101 #[.int .u64 0,.int .u32 0,.slice none 0 0]:=by rw[hW0,hr];exact Blk.new w _ _
 have hnew:=new_any w.heap.size a cap bs W0 hc (by omega) (hL.later hB0) ha hB0.size;obtain⟨n,hnl⟩:=jl bs.length;rw[<-hnl]at hnew⊢;have HNEW:=jq hnew;have HB0:=jq hB0;have HRES:=jq hres;have HS0:=jq hs0;have HS1:=jq hs1;have HV:=jq hver;have HS2:=jq hs2;have HX:=jq hnext;have HS3:=jq hs3;have HCN:=jq hcnt;have HFF:=jq hF;have HRE:=jq hr;clear hc hn hL ha hnew hB0 hres hs0 hs1 hver hs2 hnext hs3 hcnt hF hM hnl
 go_enter Tryz.func111,Tryz.ntmps111
 go_wp2_with fail
 rw[<-hW0,<-hr];clear hW0 hr;refine HNEW.out.mono ?_;rintro e w1 ⟨rd,rfl,hR1,hrd,hB1⟩
 have HN1:Hid (Calls Tryz.prog 136 #[.pointer (some ⟨rd,0,none⟩),.int .u64 18446744073709551615] w1 λe w'=>e=.returned (.int .u64 (ver:Int))/\Rd w.heap.size w' rd s1.1 s1.2/\Only [rd] w1 w'):=jq (by
  have h0:Rd w.heap.size w1 rd s0.1 s0.2:=by rw[HS0.out];exact hR1
  have:=numS_any h0 18446744073709551615 (by decide);rw[<-HV.out,<-HS1.out]at this;exact this)
 have hres1:=HRES.out.below hB1 HRES.out.lt;have HRES1:=jq hres1;have HB1:=jq (HB0.out.trans (hB1.mono HB0.out.size));have HRD:=jq hrd;clear hR1 hrd hB1 hres1 HNEW
 go_wp2_with fail
 refine HN1.out.mono ?_;rintro e w2 ⟨rfl,hR2,hO2⟩
 have HN2:Hid (Calls Tryz.prog 136 #[.pointer (some ⟨rd,0,none⟩),.int .u64 4294967295] w2 λe w'=>e=.returned (.int .u64 (next:Int))/\Rd w.heap.size w' rd s2.1 s2.2/\Only [rd] w2 w'):=jq (by
  have:=numS_any hR2 4294967295 (by decide);rw[<-HX.out,<-HS2.out]at this;exact this)
 have HO2:=jq hO2;clear hR2 hO2 HN1
 go_wp2_with fail
 refine HN2.out.mono ?_;rintro e w3 ⟨rfl,hR3,hO3⟩;obtain⟨W4,hW4⟩:=jl (w3.alloc (.cells #[.int .u64 (ver:Int),.int .u32 (next:Int),.slice none 0 0] 101));obtain⟨q,hq⟩:=jl w3.heap.size;have hB4:Below w3.heap.size w3 W4:=by rw[hW4];exact(Below.refl _ w3).alloc jn _
 have hman:Blk W4 q 101 #[.int .u64 (ver:Int),.int .u32 (next:Int),.slice none 0 0]:=by rw[hW4,hq];exact Blk.new w3 _ _
 obtain⟨cs3,hrb3,hrg3⟩:=hR3.blk;have hu13:Upon (λk=>k=rd) w1 w3:=(Upon.of_only HO2.out (λg hg=>.inl (jE.1 hg))).trans (Upon.of_only hO3 (λg hg=>.inl (jE.1 hg))) (λ_ hk=>.inl hk)
 have hrr:r≠rd:=λe=>by
  have h1:=HRES1.out.lt;have h2:=HB0.out.size;have h3:=HRES.out.lt;have h4:=HRD.out
  omega
 have hres3:=HRES1.out.upon hu13 hrr;have hBw3:Below w.heap.size w w3:=HB1.out.trans (hu13.below HB1.out.size (λk hk=>by have:=HRD.out;have:=HB0.out.size;omega));have hrs4:RS w r q rd ver next (.slice none 0 0) [] s2 W4:=⟨hBw3.trans (hB4.mono hBw3.size),hres3.below hB4 hres3.lt,hman,World.ownsRow_nil _ _ _ _,λx hx=>(by cases hx),hR3.later hB4,by rw[hq];exact hBw3.size,by rw[HRE.out];exact Nat.le_refl _,λe=>by have:=hres3.lt;omega⟩;have HRS4:=jq hrs4
 have HN3:Hid (Calls Tryz.prog 136 #[.pointer (some ⟨rd,0,none⟩),.int .u64 2048] W4 λe w'=>e=.returned (.int .u64 (cnt:Int))/\Rd w.heap.size w' rd s3.1 s3.2/\Only [rd] W4 w'):=jq (by
  have:=numS_any hrs4.rd 2048 (by decide);rw[<-HCN.out,<-HS3.out]at this;exact this)
 clear hR3 hO3 HN2 hB4 hman hrb3 hrg3 hu13 hrr hres3 hBw3 hrs4 HRES HRES1
 go_wp2_with fail
 rw[<-hW4,<-hq];clear hW4 hq;refine HN3.out.mono ?_;rintro e w5 ⟨rfl,hR5,hO5⟩;have HRS5:=jq (HRS4.out.read (s':=s3) hO5 hR5);have HF0:Hid (filesS cnt s3 (([]:List FR).map FR.f)=F):=jq HFF.out.symm;clear hR5 hO5 HN3 HRS4
 go_wp2_with fail
 go_loopw[6] (λn6 wr=>∃(k:Nat) (u:Value) (l:List FR) (s:St),n6=.int .u64 (k:Int)/\k<=2048/\l.length+k<=2048/\Hid (RS w r q rd ver next u l s wr)/\Hid (filesS k s (l.map FR.f)=F)) (λn6 _=>(intOf n6).toNat)
 case atStart=>exact⟨cnt,_,[],s3,rfl,hcnt2,by simpa using hcnt2,HRS5,HF0⟩
 case round=>
  obtain⟨k,u,l,s,rfl,hk,hlk,hRS,hFS⟩:=hrel
  by_cases hgo:0<k/\s.2=0
  ·have hk0:decide (0<k)=true:=jd hgo.1;have HERR:Hid (Calls Tryz.prog 137 #[.pointer (some ⟨rd,0,none⟩)] wr λe w'=>e=.returned (.int .i64 0)/\w'=wr):=jq (by have:=err_any hRS.out.rd;rw[hgo.2]at this;exact this);obtain⟨ln,hln⟩:=jl ((numS 32 s).1);obtain⟨t1,ht1⟩:=jl ((numS 32 s).2);obtain⟨nmb,hnmb⟩:=jl ((bytesS ln t1).1);obtain⟨t2,ht2⟩:=jl ((bytesS ln t1).2);obtain⟨id,hid⟩:=jl ((numS 4294967295 t2).1);obtain⟨t3,ht3⟩:=jl ((numS 4294967295 t2).2);obtain⟨sz,hsz⟩:=jl ((numS 7340032 t3).1);obtain⟨t4,ht4⟩:=jl ((numS 7340032 t3).2);obtain⟨BL,hBL⟩:=jl (blocksS (Mani.many sz) t4 [])
   have hfile:fileS s=(⟨nmb,id,sz,BL.1⟩,BL.2):=by
    unfold fileS headS;dsimp only;rw[<-hln,<-ht1,<-hnmb,<-ht2,<-hid,<-ht3,<-hsz,<-ht4,<-hBL]
   have hln32:ln<=32:=by rw[hln];exact(numS_le _ _).1
   have hid32:id<=4294967295:=by rw[hid];exact(numS_le _ _).1
   have hszm:sz<=7340032:=by rw[hsz];exact(numS_le _ _).1
   have hnm32:nmb.length<=32:=by rw[hnmb];have:=(bytesS_le ln t1).1;omega
   have hw1:IntKind.i64.wrap (ln:Int)=(ln:Int):=by rw[IntKind.wrap_i64];omega
   have hw2:IntKind.u32.wrap (id:Int)=(id:Int):=by rw[IntKind.wrap_u32];omega
   have hw3:IntKind.i64.wrap (sz:Int)=(sz:Int):=by rw[IntKind.wrap_i64];omega
   have HNA:Hid (Calls Tryz.prog 136 #[.pointer (some ⟨rd,0,none⟩),.int .u64 32] wr λe w'=>e=.returned (.int .u64 (ln:Int))/\Rd w.heap.size w' rd t1.1 t1.2/\Only [rd] wr w'):=jq (by
    have:=numS_any hRS.out.rd 32 (by decide);rw[<-hln,<-ht1]at this;exact this)
   have HNM:=jq hnmb;have HT2:=jq ht2;have HID:=jq hid;have HT3:=jq ht3;have HSZ:=jq hsz;have HT4:=jq ht4;have HBL:=jq hBL;have HFILE:=jq hfile;have HGO:=jq hgo;clear hln ht1 hnmb ht2 hid ht3 hsz ht4 hBL hfile hgo
   go_wp2_with fail
   refine HERR.out.mono ?_;rintro e w6 ⟨rfl,rfl⟩
   go_wp2_with fail
   refine HNA.out.mono ?_;rintro e w7 ⟨rfl,hR7,hO7⟩;have hrs7:=hRS.out.read (s':=t1) hO7 hR7;have HBY:=jq (bytesS_any (s:=t1) hrs7.rd ln (by omega));have HRS7:=jq hrs7;clear hR7 hO7 hrs7 HNA
   go_wp2_with fail
   refine HBY.out.mono ?_;rintro e w8 ⟨v8,rfl,hO8,hR8,hU8⟩;rw[<-HNM.out]at hO8;rw[<-HT2.out]at hR8;obtain⟨a8,c8,rfl,_,hL8,_,_⟩:=own_shape hO8;have hcv:=conv_b (vc:=c8) hL8;obtain⟨sb,hsb⟩:∃sb:ByteArray,sv nmb=.string sb:=⟨_,rfl⟩;rw[hsb]at hcv;have HRS8:=jq (HRS7.out.readU (s':=t2) hU8 hR8);have HSB:=jq hsb;obtain⟨nl,hnl⟩:=jl nmb.length;rw[<-hnl]at hcv hnm32⊢;clear hO8 hR8 hU8 hL8 hsb hnl HBY
   go_wp2_with fail
   obtain⟨W9,hW9⟩:=jl (w8.alloc (.cells #[.string sb,.int .u32 0,.int .i64 0,.slice none 0 0] 106));obtain⟨fb,hfb⟩:=jl w8.heap.size;have hbs9:BS w r q rd ver next u l fb (.string sb) 0 0 (.slice none 0 0) [] t2 W9:=by rw[hW9,hfb];exact BS.start HRS8.out (.string sb) 0 0
   rw[<-hW9,<-hfb]
   have HNI:Hid (Calls Tryz.prog 136 #[.pointer (some ⟨rd,0,none⟩),.int .u64 4294967295] W9 λe w'=>e=.returned (.int .u64 (id:Int))/\Rd w.heap.size w' rd t3.1 t3.2/\Only [rd] W9 w'):=jq (by
    have:=numS_any hbs9.rs.rd 4294967295 (by decide);rw[<-HID.out,<-HT3.out]at this;exact this)
   have HBS9:=jq hbs9;clear hW9 hfb hbs9 hcv;refine HNI.out.mono ?_;rintro e w10 ⟨rfl,hR10,hO10⟩;have hbs10:=HBS9.out.read (s':=t3) hO10 hR10
   have HNS:Hid (Calls Tryz.prog 136 #[.pointer (some ⟨rd,0,none⟩),.int .u64 7340032] w10 λe w'=>e=.returned (.int .u64 (sz:Int))/\Rd w.heap.size w' rd t4.1 t4.2/\Only [rd] w10 w'):=jq (by
    have:=numS_any hbs10.rs.rd 7340032 (by decide);rw[<-HSZ.out,<-HT4.out]at this;exact this)
   have HBS10:=jq hbs10;clear hR10 hO10 hbs10 HNI
   go_wp2_with fail
   refine HNS.out.mono ?_;rintro e w11 ⟨rfl,hR11,hO11⟩;have hbs11:=HBS10.out.read (s':=t4) hO11 hR11;have z1:=hbs11.box.frozen 1;have z2:=hbs11.box.frozen 2;have hd1:=hbs11.box.cell 1;have hd2:=hbs11.box.cell 2
   simp at hd1 hd2
   have hbs12:=hbs11.set (id':=id) (sz':=0) (bu':=.slice none 0 0) (acc':=[]) 1 (.int .u32 (id:Int)) (hbs11.box.set 1 _) hbs11.bl;have hbs13:=hbs12.set (id':=id) (sz':=sz) (bu':=.slice none 0 0) (acc':=[]) 2 (.int .i64 (sz:Int)) (hbs12.box.set 2 _) hbs12.bl;have hd3:=hbs13.box.cell 2
   simp at hd3
   have HBS13:=jq hbs13;obtain⟨mn,hmn⟩:=jl (Mani.many sz);have hmn2:mn<=70000:=by rw[hmn];unfold Mani.many;split <;> omega
   obtain⟨W13,hW13⟩:=jl ((w11.setCell ⟨fb,1,none⟩ (.int .u32 (id:Int))).setCell ⟨fb,2,none⟩ (.int .i64 (sz:Int)));rw[<-hW13]at HBS13;have HMY:=jq (many_any sz (by omega) W13);rw[<-hmn]at HMY;have HB0L:Hid (blocksS mn t4 []=BL):=jq (by rw[hmn];exact HBL.out.symm);rw[hW13]at HMY;clear hR11 hO11 hbs11 hbs12 hbs13 HNS hmn
   go_wp2_with fail
   refine HMY.out.mono ?_;rw[<-hW13];rintro e w14 ⟨rfl,rfl⟩;clear hd3 hd1 hd2 z1 z2 hW13 HMY
   go_wp2_with fail
   go_loopw[45] (λi wr2=>∃(j:Nat) (bu:Value) (acc:List Nat) (t:St),i=.int .i64 (j:Int)/\j<=mn/\acc.length<=j/\Hid (BS w r q rd ver next u l fb (.string sb) id sz bu acc t wr2)/\Hid (blocksS (mn-j) t acc=BL)) (λi _=>mn-(intOf i).toNat)
   case atStart=>exact⟨0,_,[],t4,rfl,Nat.zero_le _,Nat.zero_le _,HBS13,HB0L⟩
   case round=>
    obtain⟨j,bu,acc,tt,rfl,hj,haj,hBS,hBK⟩:=hrel
    by_cases hlt:j<mn
    ·have hjd:decide ((j:Int) <(mn:Int))=true:=jd (by omega);have HER2:=jq (err_any hBS.out.rs.rd)
     by_cases hz:tt.2=0
     ·rw[hz]at HER2;obtain⟨ba,bc,rfl,hbc,_,_,_⟩:=own_shape hBS.out.bl;obtain⟨vb,hvb⟩:=jl ((numS 65536 tt).1);obtain⟨t6,ht6⟩:=jl ((numS 65536 tt).2);have hvb2:vb<=65536:=by rw[hvb];exact(numS_le _ _).1
      have hwv:IntKind.i64.wrap (vb:Int)=(vb:Int):=by rw[IntKind.wrap_i64];omega
      have hbk2:blocksS (mn-(j+1)) t6 (acc++ [vb])=BL:=by
       have h1:=hBK.out;rw[show mn-j=(mn-(j+1))+1 by omega]at h1;unfold blocksS at h1;rw[if_pos hz,<-hvb,<-ht6]at h1;exact h1
      have hbsd:=hBS.out.later (Below.refl _ wr).drew
      have HNV:Hid (Calls Tryz.prog 136 #[.pointer (some ⟨rd,0,none⟩),.int .u64 65536] wr.drew λe w'=>e=.returned (.int .u64 (vb:Int))/\Rd w.heap.size w' rd t6.1 t6.2/\Only [rd] wr.drew w'):=jq (by
       have:=numS_any hbsd.rs.rd 65536 (by decide);rw[<-hvb,<-ht6]at this;exact this)
      have hk1:wr.drew.cell? ⟨fb,3,none⟩=some (.slice ba acc.length bc):=hbsd.box.cell 3;have HBSD:=jq hbsd;have HBK2:=jq hbk2;obtain⟨al,hal⟩:=jl acc.length;rw[<-hal]at hk1;have HAL:=jq hal;clear hbk2 hvb ht6 hbsd hBS hBK hbc hal
      go_wp2_with fail
      refine HER2.out.mono ?_;rintro e wr ⟨rfl,rfl⟩
      go_wp2_with fail
      go_region_law ((first|(go_simp;go_at_call 136;refine HNV.out.mono ?_;rintro e w16 ⟨rfl,hR16,hO16⟩;have hbs16:=HBSD.out.read (s':=t6) hO16 hR16;have hk2:=hbs16.box.cell 3;simp only[jt,ja,jb]at hk2;rw[<-HAL.out]at hk2;obtain⟨v17,w17,hr17,hrow17,hg17⟩:=append_int w16 104 _ acc hbs16.bl vb (by omega) (Nat.le_of_lt hbs16.box.lt);have hk2a: (w16.alloc (.cells #[.int .i64 (vb:Int)] 3)).cell? ⟨fb,3,none⟩=some (.slice ba al bc):=(((Below.refl _ w16).alloc jn _).cell (p:=⟨fb,3,none⟩) hbs16.box.lt).trans hk2;have hu17:Upon (λy=>(Value.slice ba acc.length bc).ownBlock=some y) w16 w17:=Upon.of_grown hg17 (λg hg=>.inl hg);have hbx17:=hbs16.box.upon hu17 (own_ne_blk hbs16.bl hbs16.box (by decide));have hk3:=hbx17.cell 3;have hz17:=hbx17.frozen 3;simp only[jt,ja,jb]at hk3;rw[<-HAL.out]at hk3 hr17;unfold iv at hr17;obtain⟨a17,c17,rfl,_,_,_,_⟩:=own_shape hrow17;have hbs18:=hbs16.grow (acc':=acc++ [vb]) hg17 hrow17;obtain⟨l17,hl17⟩:=jl ((acc++ [vb]).length);rw[<-hl17]at hr17 hbs18;have HBS18:=jq hbs18;clear hbs18 hbs16 hrow17 hg17 hu17 hbx17 hR16 hO16 hl17;dsimp only)|(refine step_append_run rfl (.tmp 51) (.tmp 55) 104 104 rfl _ _ rfl rfl hr17 ?_)))
      all_goals go_wp2_with fail
      all_goals exact⟨⟨j+1,_,acc++ [vb],t6,by simp,by omega,by rw[jL,List.length_singleton];omega,HBS18,HBK2⟩,by simp[intOf];omega⟩
     ·have hfin: (acc,tt)=BL:=by
       have h1:=hBK.out;obtain⟨d,hd⟩:∃d,mn-j=d+1:=⟨mn-j-1,by omega⟩;rw[hd]at h1;unfold blocksS at h1;rw[if_neg hz]at h1;exact h1
      obtain⟨te,hte⟩:=jl tt.2;have hteb: (te==0)=false:=by rw[hte];simpa using hz
      rw[<-hte]at HER2;clear hte hz
      go_wp2_with fail
      refine HER2.out.mono ?_;rintro e wr ⟨rfl,rfl⟩;obtain⟨ba,bc,rfl,hbc,hbL,hbg,_⟩:=own_shape hBS.out.bl;obtain⟨xf,hxf⟩:∃x:FR,x=⟨⟨nmb,id,sz,acc⟩,ba,bc⟩:=⟨_,rfl⟩;have hvs:xf.vs= [.string sb,.int .u32 (id:Int),.int .i64 (sz:Int),.slice ba acc.length bc]:=by rw[hxf,<-HSB.out];rfl
      have hxn:xf.f=(fileS s).1:=by rw[HFILE.out,hxf,<-hfin]
      obtain⟨v13,w13,hr13,hrow13,hg13⟩:=append_file wr 99 u l hBS.out.rs.row xf (by omega) hBS.out.rs.below.size;obtain⟨a13,c13,rfl,_,_,_,_⟩:=own_shape hrow13
      have hrs13:=hBS.out.rs.rowed (l':=l++ [xf]) hg13 hrow13 (λy hy=>by
       rcases List.mem_append.1 hy with hy|hy
       ·exact .inl hy
       ·rw[jE.1 hy];refine .inr ?_;rw[hxf];exact own_mono hBS.out.bl hBS.out.gf)
      have hfs13:filesS (k-1) tt ((l++ [xf]).map FR.f)=F:=by
       have h1:=hFS.out;obtain⟨k',hk'⟩:∃k',k=k'+1:=⟨k-1,by have:=HGO.out.1;omega⟩;rw[hk']at h1;unfold filesS at h1;rw[if_pos HGO.out.2]at h1;have h2:tt=(fileS s).2:=by rw[HFILE.out,<-hfin]
       rw[List.map_append,List.map_singleton,hxn,h2,hk'];exact h1
      have g0:=hBS.out.box.cell 0;have g1:=hBS.out.box.cell 1;have g2:=hBS.out.box.cell 2;have g3:=hBS.out.box.cell 3;have m2:=hBS.out.rs.man.cell 2
      have hmz:w13.frozen? ⟨q,2,none⟩=false:=by
       have hu13:Upon (λy=>u.ownBlock=some y) wr w13:=Upon.of_grown hg13 (λg hg=>.inl hg);exact(hBS.out.rs.man.upon hu13 (own_ne_blk hBS.out.rs.row hBS.out.rs.man (by decide))).frozen 2
      have hmc:w13.cell? ⟨q,2,none⟩=some u:=by
       have hu13:Upon (λy=>u.ownBlock=some y) wr w13:=Upon.of_grown hg13 (λg hg=>.inl hg);exact(hBS.out.rs.man.upon hu13 (own_ne_blk hBS.out.rs.row hBS.out.rs.man (by decide))).cell 2
      simp at g0 g1 g2 g3 m2
      rw[hvs]at hr13;obtain⟨ll,hll⟩:=jl ((l++ [xf]).length);rw[<-hll]at hr13 hrs13;have HRS13:=jq hrs13;have HFS13:=jq hfs13;have hkm:k-1+1=k:=by have:=HGO.out.1;omega
      have hlen13: (l++ [xf]).length+(k-1)<=2048:=by rw[jL,List.length_singleton];omega
      have HLEN13:=jq hlen13;obtain⟨km,hkm2⟩:=jl (k-1);rw[<-hkm2]at HFS13 HLEN13;have hki: (k:Int)=(km:Int)+1:=by omega
      have hkl:km<k:=by omega
      have hkx:km<=2048:=by omega
      obtain⟨al,hal⟩:=jl acc.length;rw[<-hal]at hr13 g3;clear hbL hbg hvs hxn hrow13 hg13 hrs13 hfs13 hfin hBS hlen13 hkm hkm2 hxf hbc hal hll
      go_wp2_with (first|(at_builtin;refine Lib.wpList_append_run _ rfl _ _ _ _ rfl _ _ rfl rfl _ _ hr13 ?_))
      exact⟨⟨km,_,_,_,by simp,hkx,HLEN13.out,HRS13,HFS13⟩,by simp[intOf];omega⟩
    ·obtain rfl:mn=j:=by omega
     have hjd:decide ((mn:Int) <(mn:Int))=false:=jf (by omega)
     have hfin: (acc,tt)=BL:=by
      have h1:=hBK.out;rw[Nat.sub_self]at h1;exact h1
     obtain⟨ba,bc,rfl,hbc,hbL,hbg,_⟩:=own_shape hBS.out.bl;obtain⟨xf,hxf⟩:∃x:FR,x=⟨⟨nmb,id,sz,acc⟩,ba,bc⟩:=⟨_,rfl⟩;have hvs:xf.vs= [.string sb,.int .u32 (id:Int),.int .i64 (sz:Int),.slice ba acc.length bc]:=by rw[hxf,<-HSB.out];rfl
     have hxn:xf.f=(fileS s).1:=by rw[HFILE.out,hxf,<-hfin]
     obtain⟨v13,w13,hr13,hrow13,hg13⟩:=append_file wr 99 u l hBS.out.rs.row xf (by omega) hBS.out.rs.below.size;obtain⟨a13,c13,rfl,_,_,_,_⟩:=own_shape hrow13
     have hrs13:=hBS.out.rs.rowed (l':=l++ [xf]) hg13 hrow13 (λy hy=>by
      rcases List.mem_append.1 hy with hy|hy
      ·exact .inl hy
      ·rw[jE.1 hy];refine .inr ?_;rw[hxf];exact own_mono hBS.out.bl hBS.out.gf)
     have hfs13:filesS (k-1) tt ((l++ [xf]).map FR.f)=F:=by
      have h1:=hFS.out;obtain⟨k',hk'⟩:∃k',k=k'+1:=⟨k-1,by have:=HGO.out.1;omega⟩;rw[hk']at h1;unfold filesS at h1;rw[if_pos HGO.out.2]at h1;have h2:tt=(fileS s).2:=by rw[HFILE.out,<-hfin]
      rw[List.map_append,List.map_singleton,hxn,h2,hk'];exact h1
     have g0:=hBS.out.box.cell 0;have g1:=hBS.out.box.cell 1;have g2:=hBS.out.box.cell 2;have g3:=hBS.out.box.cell 3;have m2:=hBS.out.rs.man.cell 2
     have hmz:w13.frozen? ⟨q,2,none⟩=false:=by
      have hu13:Upon (λy=>u.ownBlock=some y) wr w13:=Upon.of_grown hg13 (λg hg=>.inl hg);exact(hBS.out.rs.man.upon hu13 (own_ne_blk hBS.out.rs.row hBS.out.rs.man (by decide))).frozen 2
     have hmc:w13.cell? ⟨q,2,none⟩=some u:=by
      have hu13:Upon (λy=>u.ownBlock=some y) wr w13:=Upon.of_grown hg13 (λg hg=>.inl hg);exact(hBS.out.rs.man.upon hu13 (own_ne_blk hBS.out.rs.row hBS.out.rs.man (by decide))).cell 2
     simp at g0 g1 g2 g3 m2
     rw[hvs]at hr13;obtain⟨ll,hll⟩:=jl ((l++ [xf]).length);rw[<-hll]at hr13 hrs13;have HRS13:=jq hrs13;have HFS13:=jq hfs13;have hkm:k-1+1=k:=by have:=HGO.out.1;omega
     have hlen13: (l++ [xf]).length+(k-1)<=2048:=by rw[jL,List.length_singleton];omega
     have HLEN13:=jq hlen13;obtain⟨km,hkm2⟩:=jl (k-1);rw[<-hkm2]at HFS13 HLEN13;have hki: (k:Int)=(km:Int)+1:=by omega
     have hkl:km<k:=by omega
     have hkx:km<=2048:=by omega
     obtain⟨al,hal⟩:=jl acc.length;rw[<-hal]at hr13 g3;clear hbL hbg hvs hxn hrow13 hg13 hrs13 hfs13 hfin hBS hlen13 hkm hkm2 hxf hbc hal hll
     go_wp2_with (first|(at_builtin;refine Lib.wpList_append_run _ rfl _ _ _ _ rfl _ _ rfl rfl _ _ hr13 ?_))
     exact⟨⟨km,_,_,_,by simp,hkx,HLEN13.out,HRS13,HFS13⟩,by simp[intOf];omega⟩
  ·by_cases hk0:k=0
   ·subst hk0;have hFe: (l.map FR.f,s)=F:=hFS.out;have hki:decide (0<0)=false:=rfl
    go_wp2_with fail
    have hres:=hRS.out.res;have z0:=hres.frozen 0;have z1:=hres.frozen 1;have z2:=hres.frozen 2;obtain⟨ua,uc,rfl,_,_,_,_⟩:=own_shape hRS.out.row;obtain⟨ul,hul⟩:=jl l.length;rw[<-hul]at hRS;have m0:=hRS.out.man.cell 0;have m1:=hRS.out.man.cell 1;have m2:=hRS.out.man.cell 2;have HEND:=jq (end_any (hRS.out.later (Below.refl _ wr).drew).rd);have HG:=jq ((hRS.out.later (Below.refl _ wr).drew).gives (F:=F));have y0:=res_set hRS.out.res (.int .u64 (ver:Int)) (.int .u32 (next:Int)) (.slice ua ul uc);have hfar:=(((hRS.out.later (Below.refl _ wr).drew).man.far (p:=⟨r,0,none⟩) hRS.out.ne (.int .u64 (ver:Int))).far (p:=⟨r,1,none⟩) hRS.out.ne (.int .u32 (next:Int))).far (p:=⟨r,2,none⟩) hRS.out.ne (.slice ua ul uc);have hS1: (λw':World=>w'.cell? ⟨q,0,none⟩=some (.int .u64 (ver:Int))/\w'.cell? ⟨q,1,none⟩=some (.int .u32 (next:Int))/\w'.cell? ⟨q,2,none⟩=some (.slice ua ul uc)) wr.drew:=⟨m0,m1,m2⟩;have hS2: (λw':World=>w'.cell? ⟨q,0,none⟩=some (.int .u64 (ver:Int))/\w'.cell? ⟨q,1,none⟩=some (.int .u32 (next:Int))/\w'.cell? ⟨q,2,none⟩=some (.slice ua ul uc)) (((wr.drew.setCell ⟨r,0,none⟩ (.int .u64 (ver:Int))).setCell ⟨r,1,none⟩ (.int .u32 (next:Int))).setCell ⟨r,2,none⟩ (.slice ua ul uc)):=⟨hfar.cell 0,hfar.cell 1,hfar.cell 2⟩;obtain⟨ee,hee⟩:=jl (endE s.1 s.2);rw[<-hee]at HEND;have HEE:=jq hee;have r06:=hres.cell 0;have r16:=hres.cell 1;have r26:=hres.cell 2;simp only[jt,ja,jb]at r06 r16 r26;have HFE:=jq hFe;clear hres hfar hul hee hFe
    go_wp2_with fail
    go_region_held3 (λw'=>w'.cell? ⟨q,0,none⟩=some (.int .u64 (ver:Int))/\w'.cell? ⟨q,1,none⟩=some (.int .u32 (next:Int))/\w'.cell? ⟨q,2,none⟩=some (.slice ua ul uc)) (first|exact hS1|exact hS2) (first|(go_at_call 139;refine HEND.out.mono ?_;rintro e w6 ⟨rfl,rfl⟩;dsimp only))
    obtain⟨y0,y1,y2⟩:=y0;have hgv:=HG.out HFE.out;rw[<-HEE.out]at hgv
    go_wp2_with fail
    refine bodyPost_ret (v:=.tuple #[.agg #[.int .u64 (ver:Int),.int .u32 (next:Int),.slice ua ul uc],.int .i64 ee]) (by simp[results,Tryz.f111,go_sem,y0,y1,y2]) rfl ?_;exact hgv
   ·have hz:s.2≠0:=λe=>hgo ⟨by omega,e⟩
    have hkd:decide (0<k)=true:=jd (by omega)
    have hFe: (l.map FR.f,s)=F:=by
     have h1:=hFS.out;obtain⟨k',hk'⟩:∃k',k=k'+1:=⟨k-1,by omega⟩;rw[hk']at h1;unfold filesS at h1;rw[if_neg hz]at h1;exact h1
    have HERR:=jq (err_any hRS.out.rd);obtain⟨se,hse⟩:=jl s.2;have hseb: (se==0)=false:=by rw[hse];simpa using hz
    rw[<-hse]at HERR;clear hse hz hgo
    go_wp2_with fail
    refine HERR.out.mono ?_;rintro e wr ⟨rfl,rfl⟩
    go_wp2_with fail
    have hres:=hRS.out.res;have z0:=hres.frozen 0;have z1:=hres.frozen 1;have z2:=hres.frozen 2;obtain⟨ua,uc,rfl,_,_,_,_⟩:=own_shape hRS.out.row;obtain⟨ul,hul⟩:=jl l.length;rw[<-hul]at hRS;have m0:=hRS.out.man.cell 0;have m1:=hRS.out.man.cell 1;have m2:=hRS.out.man.cell 2;have HEND:=jq (end_any (hRS.out.later (Below.refl _ wr).drew).rd);have HG:=jq ((hRS.out.later (Below.refl _ wr).drew).gives (F:=F));have y0:=res_set hRS.out.res (.int .u64 (ver:Int)) (.int .u32 (next:Int)) (.slice ua ul uc);have hfar:=(((hRS.out.later (Below.refl _ wr).drew).man.far (p:=⟨r,0,none⟩) hRS.out.ne (.int .u64 (ver:Int))).far (p:=⟨r,1,none⟩) hRS.out.ne (.int .u32 (next:Int))).far (p:=⟨r,2,none⟩) hRS.out.ne (.slice ua ul uc);have hS1: (λw':World=>w'.cell? ⟨q,0,none⟩=some (.int .u64 (ver:Int))/\w'.cell? ⟨q,1,none⟩=some (.int .u32 (next:Int))/\w'.cell? ⟨q,2,none⟩=some (.slice ua ul uc)) wr.drew:=⟨m0,m1,m2⟩;have hS2: (λw':World=>w'.cell? ⟨q,0,none⟩=some (.int .u64 (ver:Int))/\w'.cell? ⟨q,1,none⟩=some (.int .u32 (next:Int))/\w'.cell? ⟨q,2,none⟩=some (.slice ua ul uc)) (((wr.drew.setCell ⟨r,0,none⟩ (.int .u64 (ver:Int))).setCell ⟨r,1,none⟩ (.int .u32 (next:Int))).setCell ⟨r,2,none⟩ (.slice ua ul uc)):=⟨hfar.cell 0,hfar.cell 1,hfar.cell 2⟩;obtain⟨ee,hee⟩:=jl (endE s.1 s.2);rw[<-hee]at HEND;have HEE:=jq hee;have r06:=hres.cell 0;have r16:=hres.cell 1;have r26:=hres.cell 2;simp only[jt,ja,jb]at r06 r16 r26;have HFE:=jq hFe;clear hres hfar hul hee hFe
    go_wp2_with fail
    go_region_held3 (λw'=>w'.cell? ⟨q,0,none⟩=some (.int .u64 (ver:Int))/\w'.cell? ⟨q,1,none⟩=some (.int .u32 (next:Int))/\w'.cell? ⟨q,2,none⟩=some (.slice ua ul uc)) (first|exact hS1|exact hS2) (first|(go_at_call 139;refine HEND.out.mono ?_;rintro e w6 ⟨rfl,rfl⟩;dsimp only))
    obtain⟨y0,y1,y2⟩:=y0;have hgv:=HG.out HFE.out;rw[<-HEE.out]at hgv
    go_wp2_with fail
    refine bodyPost_ret (v:=.tuple #[.agg #[.int .u64 (ver:Int),.int .u32 (next:Int),.slice ua ul uc],.int .i64 ee]) (by simp[results,Tryz.f111,go_sem,y0,y1,y2]) rfl ?_;exact hgv
end Read
namespace Read
open Go.RowKit Go.Deep Mem Crc Mani Full
def ManAt (w w':World) (v:Value) (ver next:Nat) (fs:List Fil):Prop:=∃a c l,v=.agg #[.int .u64 (ver:Int),.int .u32 (next:Int),.slice a (l:List FR).length c]/\l.map FR.f=fs/\FilesIn w' a l/\(∀b,Mem.blk a=some b->w.heap.size<=b/\b<w'.heap.size)/\∀x∈l,∀b,Mem.blk x.a=some b->w.heap.size<=b/\b<w'.heap.size
def noneV:Value:=.agg #[.int .u64 0,.int .u32 0,.slice none 0 0]
theorem manAt_none (w w':World):ManAt w w' noneV 0 0 []:=⟨none,0,[],rfl,rfl,⟨.inl rfl,λx hx=>(List.not_mem_nil hx).elim⟩,λb h=>(by cases h),λx hx=>(List.not_mem_nil hx).elim⟩
theorem ManAt.later {w w1 w2:World} {v:Value} {ver next:Nat} {fs:List Fil} (h:ManAt w w1 v ver next fs) (hB:Below w1.heap.size w1 w2):ManAt w w2 v ver next fs:=by
 obtain⟨a,c,l,h1,h2,h3,h4,h5⟩:=h;exact⟨a,c,l,h1,h2,h3.later hB,λb hb=>⟨(h4 b hb).1,Nat.lt_of_lt_of_le (h4 b hb).2 hB.size⟩,λx hx b hb=>⟨(h5 x hx b hb).1,Nat.lt_of_lt_of_le (h5 x hx b hb).2 hB.size⟩⟩
theorem ManAt.base {w0 w w':World} {v:Value} {ver next:Nat} {fs:List Fil} (h:ManAt w w' v ver next fs) (hB:w0.heap.size<=w.heap.size):ManAt w0 w' v ver next fs:=by
 obtain⟨a,c,l,h1,h2,h3,h4,h5⟩:=h;exact⟨a,c,l,h1,h2,h3,λb hb=>⟨Nat.le_trans hB (h4 b hb).1,(h4 b hb).2⟩,λx hx b hb=>⟨Nat.le_trans hB (h5 x hx b hb).1,(h5 x hx b hb).2⟩⟩
def GotM (w:World) (o:Option (Nat×Nat×List Fil)) (e:Ending) (w':World):Prop:=
 match o with
 |none=>e=.returned (.tuple #[noneV,.int .i64 5])
 |some p=>∃v,e=.returned (.tuple #[v,.int .i64 0])/\ManAt w w' v p.1 p.2.1 p.2.2
theorem ManAt.set {wb W:World} {v:Value} {ver next:Nat} {fs:List Fil} (h:ManAt wb W v ver next fs) {p:Addr} (hr:p.block<wb.heap.size) (x:Value):ManAt wb (W.setCell p x) v ver next fs:=by
 obtain⟨a,c,l,h1,h2,h3,h4,h5⟩:=h;have hu:Upon (λk=>k=p.block) W (W.setCell p x):=(Upon.refl (λk=>k=p.block) W).set (.inl rfl) _;have hs: (W.setCell p x).heap.size=W.heap.size:=by simp
 refine⟨a,c,l,h1,h2,⟨h3.row.upon hu (λg hg e=>?_),λy hy=>⟨(h3.blocks y hy).1.upon hu (λg hg e=>?_),(h3.blocks y hy).2⟩⟩,λb hb=>by rw[hs];exact h4 b hb,λy hy b hb=>by rw[hs];exact h5 y hy b hb⟩
 ·have:=h4 g hg
  omega
 ·have:=h5 y hy g hg
  omega
theorem got_len (bs:List UInt8): (Frame.got bs).2.1.length<=bs.length:=by
 unfold Frame.got
 repeat' split
 all_goals first|exact Nat.zero_le _|skip
 dsimp only;rw[bodyOf_length,jT,List.length_drop]
 omega
theorem FGot.fits {f:Fil} (h:FGot f):f.fits:=⟨by have:=h.id;omega,by have:=h.size;omega,λi hi=>by have:=h.blocks i hi;omega⟩
attribute [local go_sem] Oper.semAt_some
theorem mget_any (a:Option Addr) (cp:Nat) (bs:List UInt8) (w:World) (h:Lies w a (bs.map bv)) (hc:bs.length<=cp) (hm:bs.length<=100000):
  Calls Tryz.prog 76 #[.slice a bs.length cp] w λe w'=>GotM w (getS bs) e w'/\Below w.heap.size w w':=by
 have hgl:=got_len bs;obtain⟨W0,hW0⟩:=jl (w.alloc (.cells #[.int .u64 0,.int .u32 0,.slice none 0 0] 101));obtain⟨r,hr⟩:=jl w.heap.size;have hB0:Below w.heap.size w W0:=by rw[hW0];exact(Below.refl _ w).alloc jn _
 have hres:Blk W0 r 101 #[.int .u64 0,.int .u32 0,.slice none 0 0]:=by rw[hW0,hr];exact Blk.new w _ _
 have hget:=Frame.get_any a cp bs W0 (h.later hB0) hc (by omega);obtain⟨n,hnl⟩:=jl bs.length;rw[<-hnl]at hget⊢;have hrs:=hres.lt;have hr0:w.heap.size<=r:=by rw[hr];exact Nat.le_refl _
 have hg:=@got_len bs;obtain⟨G,hG⟩:=jl (Frame.got bs);have hgs:getS bs=if G.2.2.2=0/\G.1=77 then(if(readS G.2.1).err=0/\mayB (readS G.2.1).ver (readS G.2.1).next (readS G.2.1).fs=true then some ((readS G.2.1).ver,(readS G.2.1).next,(readS G.2.1).fs)else none)else none:=by rw[hG];rfl
 have hgl2:G.2.1.length<=100000:=by rw[hG];omega
 have HGET:Hid (Calls Tryz.prog 86 #[.slice a n cp] W0 λe w'=>(∃v,e=.returned (.tuple #[.agg #[bv G.1,v],.int .i64 G.2.2.1,.int .i64 G.2.2.2])/\OwnB w' W0.heap.size v G.2.1)/\Below W0.heap.size W0 w'):=jq (hget.mono (λe w' hh=>by rw[hG];exact⟨hh.out,hh.below⟩));have HGS:=jq hgs;have HB0:=jq hB0;have HRES:=jq hres;clear h hc hm hgl hg hget hnl hgs hres;obtain⟨gk,gb,gn,ge⟩:=G;dsimp only at HGET HGS hgl2;obtain⟨kv,hkv⟩:=jl gk.toNat;have hbk:bv gk=.int .u8 (kv:Int):=by rw[hkv];rfl
 rw[hbk]at HGET
 have hk77:gk=77↔(kv:Int)=77:=by
  rw[hkv]
  constructor
  ·rintro rfl;rfl
  ·intro e;exact UInt8.toNat_inj.1 (by show gk.toNat=77;omega)
 have HK77:=jq hk77;clear hkv hbk hG hk77 hB0
 go_enter Tryz.func76,Tryz.ntmps76
 go_wp2_with fail
 rw[<-hW0,<-hr];clear hW0 hr;refine HGET.out.mono ?_;rintro e w1 ⟨⟨v,rfl,hO⟩,hB1⟩;obtain⟨va,vc,ev,hvc,hL,hbb,_⟩:=own_shape hO;subst ev;obtain⟨W1,hW1⟩:=jl (w1.alloc (.cells #[.int .u8 (kv:Int),.slice va gb.length vc] 128));obtain⟨sb,hsb⟩:=jl w1.heap.size;have hBa:Below w1.heap.size w1 W1:=by rw[hW1];exact(Below.refl _ w1).alloc jn _
 have hsec:Blk W1 sb 128 #[.int .u8 (kv:Int),.slice va gb.length vc]:=by rw[hW1,hsb];exact Blk.new w1 _ _
 have hL1:=hL.later hBa;have hbb1:∀k,Mem.blk va=some k->k<W1.heap.size:=λk hk=>Nat.lt_of_lt_of_le (hbb k hk).2 hBa.size
 have hB01:Below w.heap.size w W1:=HB0.out.trans ((hB1.mono HB0.out.size).trans (hBa.mono (Nat.le_trans HB0.out.size hB1.size)));have hres1:=(HRES.out.below hB1 HRES.out.lt).below hBa (Nat.lt_of_lt_of_le HRES.out.lt hB1.size);have hrl1:=hres1.lt;obtain⟨gl,hgl⟩:=jl gb.length
 have hrd:∀x:World,Below W1.heap.size W1 x->Calls Tryz.prog 111 #[.slice va gl vc] x (ReadsM x (readS gb)):=λx hx=>by
  rw[hgl];exact read_any va vc gb x hvc hgl2 (hL1.later hx) (λk hk=>Nat.lt_of_lt_of_le (hbb1 k hk) hx.size)
 rw[<-hgl]at hsec hW1 hgl2⊢;have HRD:=jq hrd;have HSEC:=jq hsec;have HRES1:=jq hres1;have HB01:=jq hB01;have k0:=hsec.cell 0;have k1:=hsec.cell 1;have r0:=hres1.cell 0;have r1:=hres1.cell 1;have r2:=hres1.cell 2;have f0:=hres1.frozen 0;have f1:=hres1.frozen 1;have f2:=hres1.frozen 2;simp only[jt,ja,jb]at k0 k1 r0 r1 r2;have y0:=res_set hres1 (.int .u64 0) (.int .u32 0) (.slice none 0 0);have hBf:=below_res hB01 hr0 (.int .u64 0) (.int .u32 0) (.slice none 0 0);have HBF:=jq hBf;have hglL:=hgl;have HGLL:=jq hglL;subst hW1 hsb
 simp at k0 k1 r0 r1 r2 f0 f1 f2
 clear hgl hglL hrd hsec hres1 hB01 hL hL1 hbb hbb1 hBa hB1 hO HRES HB0 HGET hBf hvc;obtain⟨ke,hke⟩:∃b:Bool,(ge==0)=b:=⟨_,rfl⟩;cases ke
 ·have hno:getS bs=none:=by rw[HGS.out,if_neg (λhh=>by rw[hh.1]at hke;cases hke)]
  have HNO:=jq hno;clear hno
  go_wp2_with fail
  obtain⟨y0,y1,y2⟩:=y0;refine bodyPost_ret (v:=.tuple #[.agg #[.int .u64 0,.int .u32 0,.slice none 0 0],.int .i64 5]) (by simp[results,Tryz.f76,go_sem,y0,y1,y2]) rfl ?_;rw[HNO.out];exact⟨rfl,HBF.out⟩
 ·have hke0:ge=0:=by simpa using hke
  subst hke0;obtain⟨kk,hkk⟩:∃b:Bool,((kv:Int)==77)=b:=⟨_,rfl⟩;cases kk
  ·have hno:getS bs=none:=by rw[HGS.out,if_neg (λhh=>by rw[HK77.out.1 hh.2]at hkk;cases hkk)]
   have HNO:=jq hno;clear hno
   go_wp2_with fail
   obtain⟨y0,y1,y2⟩:=y0;refine bodyPost_ret (v:=.tuple #[.agg #[.int .u64 0,.int .u32 0,.slice none 0 0],.int .i64 5]) (by simp[results,Tryz.f76,go_sem,y0,y1,y2]) rfl ?_;rw[HNO.out];exact⟨rfl,HBF.out⟩
  ·have hgs2:getS bs=if(readS gb).err=0/\mayB (readS gb).ver (readS gb).next (readS gb).fs=true then some ((readS gb).ver,(readS gb).next,(readS gb).fs)else none:=by rw[HGS.out,if_pos ⟨rfl,HK77.out.2 (by simpa using hkk)⟩]
   have hle:=readS_le gb;rw[<-HGLL.out]at hle;obtain⟨M,hM⟩:=jl (readS gb);rw[<-hM]at hgs2 hle HRD;obtain⟨ver,next,fs,er⟩:=M;dsimp only at hgs2 hle;obtain⟨v1,n1,g1,q1,b1⟩:=hle;have hfit:∀f∈fs,f.fits:=λf hf=>(g1 f hf).fits
   have hbd:=body_got v1 n1 g1 q1 (by omega);have HGS2:=jq hgs2;have HFIT:=jq hfit;have HG1:=jq g1;clear hM hgs2 hfit HGS HK77 g1 b1 y0
   go_wp2_with fail
   refine(HRD.out _ (by first|exact Below.refl _ _|exact(Below.refl _ _).drew)).mono ?_;rintro e w2 ⟨hB2,a2,c2,l2,rfl,hl2,hF2,ha2,hx2⟩;dsimp only at hl2;have hs2:=hB2.size
   simp at hs2
   have hres2:=HRES1.out.below (w':=w2) ⟨hB2.os,hB2.tape,hB2.output,hB2.size,hB2.block⟩ HRES1.out.lt;obtain⟨n2,hn2⟩:=jl l2.length;rw[<-hn2];obtain⟨W3,hW3⟩:=jl (w2.alloc (.cells #[.int .u64 (ver:Int),.int .u32 (next:Int),.slice a2 n2 c2] 101));obtain⟨mb,hmb⟩:=jl w2.heap.size;have hB3:Below w2.heap.size w2 W3:=by rw[hW3];exact(Below.refl _ w2).alloc jn _
   have hman:Blk W3 mb 101 #[.int .u64 (ver:Int),.int .u32 (next:Int),.slice a2 n2 c2]:=by rw[hW3,hmb];exact Blk.new w2 _ _
   have hres3:=hres2.below hB3 hres2.lt;have hBl:Below w.heap.size w w2:=HB01.out.trans ((show Below (w1.alloc (.cells #[.int .u8 (kv:Int),.slice va gl vc] 128)).heap.size (w1.alloc (.cells #[.int .u8 (kv:Int),.slice va gl vc] 128)) w2 from⟨hB2.os,hB2.tape,hB2.output,hB2.size,hB2.block⟩).mono HB01.out.size);have hBl3:=hBl.trans (hB3.mono hBl.size)
   have hat:ManAt (w1.alloc (.cells #[.int .u8 (kv:Int),.slice va gl vc] 128)) W3 (.agg #[.int .u64 (ver:Int),.int .u32 (next:Int),.slice a2 n2 c2]) ver next fs:=by
    rw[hn2];exact ManAt.later ⟨a2,c2,l2,rfl,hl2,hF2,ha2,hx2⟩ hB3
   have hmay:∀x:World,Below W3.heap.size W3 x->Calls Tryz.prog 97 #[.agg #[.int .u64 (ver:Int),.int .u32 (next:Int),.slice a2 n2 c2]] x λe w'=>e=.returned (.bool (mayB ver next fs))/\Below x.heap.size x w':=λx hx=>by
    rw[hn2,<-hl2];exact may_any ver next a2 c2 l2 x ((hF2.later hB3).later hx) (by omega) (by omega) (λy hy=>HFIT.out _ (by rw[<-hl2];exact List.mem_map_of_mem hy)) (by rw[hl2];exact hbd)
   have y0:=res_set hres3 (.int .u64 0) (.int .u32 0) (.slice none 0 0);have HBF3:=jq (below_res hBl3 hr0 (.int .u64 0) (.int .u32 0) (.slice none 0 0));have e0:=hman.cell 0;have e1:=hman.cell 1;have e2:=hman.cell 2;have z0:=hres3.frozen 0;have z1:=hres3.frozen 1;have z2:=hres3.frozen 2;have x0:=hres3.cell 0;have x1:=hres3.cell 1;have x2:=hres3.cell 2;have HMAN:=jq hman;have HRES3:=jq hres3;have HBL3:=jq hBl3;have HAT:=jq hat;have HMAY:=jq hmay;subst hW3 hmb
   simp at e0 e1 e2 z0 z1 z2 x0 x1 x2
   clear hB2 hl2 hF2 ha2 hx2 hres2 hB3 hman hres3 hBl hBl3 hat hmay HFIT hbd hn2;obtain⟨ke2,hke2⟩:∃b:Bool,(er==0)=b:=⟨_,rfl⟩;cases ke2
   ·have hno:getS bs=none:=by rw[HGS2.out,if_neg (λhh=>by rw[hh.1]at hke2;cases hke2)]
    have HNO:=jq hno;have hnb: (er !=0)=true:=by simpa using hke2
    clear hno
    go_wp2_with fail
    obtain⟨y0,y1,y2⟩:=y0;refine bodyPost_ret (v:=.tuple #[.agg #[.int .u64 0,.int .u32 0,.slice none 0 0],.int .i64 5]) (by simp[results,Tryz.f76,go_sem,y0,y1,y2]) rfl ?_;rw[HNO.out];exact⟨rfl,HBF3.out⟩
   ·have hke20:er=0:=by simpa using hke2
    subst hke20;obtain⟨mv,hmv⟩:∃b,mayB ver next fs=b:=⟨_,rfl⟩;rw[hmv]at HMAY HGS2;clear y0;cases mv
    ·have hno:getS bs=none:=by rw[HGS2.out,if_neg (λhh=>by cases hh.2)]
     have HNO:=jq hno;clear hno
     go_wp2_with (first|(go_at_call 97;refine(HMAY.out _ (by first|exact Below.refl _ _|exact(Below.refl _ _).drew)).mono ?_;rintro e w5 ⟨rfl,hB5⟩;have hres5:=HRES3.out.below (w':=w5) ⟨hB5.os,hB5.tape,hB5.output,hB5.size,hB5.block⟩ HRES3.out.lt;have HRES5:=jq hres5;have o0:=hres5.cell 0;have o1:=hres5.cell 1;have o2:=hres5.cell 2;have t0:=hres5.frozen 0;have t1:=hres5.frozen 1;have t2:=hres5.frozen 2;simp at o0 o1 o2 t0 t1 t2;have HB5:=jq hB5;clear hB5 hres5))
     have hB35:=HBL3.out.trans ((show Below (w2.alloc (.cells #[.int .u64 (ver:Int),.int .u32 (next:Int),.slice a2 n2 c2] 101)).heap.size (w2.alloc (.cells #[.int .u64 (ver:Int),.int .u32 (next:Int),.slice a2 n2 c2] 101)) w5 from⟨HB5.out.os,HB5.out.tape,HB5.out.output,HB5.out.size,HB5.out.block⟩).mono HBL3.out.size);obtain⟨y0,y1,y2⟩:=res_set HRES5.out (.int .u64 0) (.int .u32 0) (.slice none 0 0);have hbf:=below_res hB35 hr0 (.int .u64 0) (.int .u32 0) (.slice none 0 0);refine bodyPost_ret (v:=.tuple #[.agg #[.int .u64 0,.int .u32 0,.slice none 0 0],.int .i64 5]) (by simp[results,Tryz.f76,go_sem,y0,y1,y2]) rfl ?_;rw[HNO.out];exact⟨rfl,hbf⟩
    ·have hyes:getS bs=some (ver,next,fs):=by rw[HGS2.out,if_pos ⟨rfl,rfl⟩]
     have HYES:=jq hyes;clear hyes
     go_wp2_with (first|(go_at_call 97;refine(HMAY.out _ (by first|exact Below.refl _ _|exact(Below.refl _ _).drew)).mono ?_;rintro e w5 ⟨rfl,hB5⟩;have hres5:=HRES3.out.below (w':=w5) ⟨hB5.os,hB5.tape,hB5.output,hB5.size,hB5.block⟩ HRES3.out.lt;have HRES5:=jq hres5;have o0:=hres5.cell 0;have o1:=hres5.cell 1;have o2:=hres5.cell 2;have t0:=hres5.frozen 0;have t1:=hres5.frozen 1;have t2:=hres5.frozen 2;simp at o0 o1 o2 t0 t1 t2;have hman5:=HMAN.out.below (w':=w5) ⟨hB5.os,hB5.tape,hB5.output,hB5.size,hB5.block⟩ HMAN.out.lt;have e0:=hman5.cell 0;have e1:=hman5.cell 1;have e2:=hman5.cell 2;simp at e0 e1 e2;have HB5:=jq hB5;clear hB5 hres5 hman5))
     have hb35:=(show Below (w2.alloc (.cells #[.int .u64 (ver:Int),.int .u32 (next:Int),.slice a2 n2 c2] 101)).heap.size (w2.alloc (.cells #[.int .u64 (ver:Int),.int .u32 (next:Int),.slice a2 n2 c2] 101)) w5 from⟨HB5.out.os,HB5.out.tape,HB5.out.output,HB5.out.size,HB5.out.block⟩);have hB35:=HBL3.out.trans (hb35.mono HBL3.out.size);obtain⟨y0,y1,y2⟩:=res_set HRES5.out (.int .u64 (ver:Int)) (.int .u32 (next:Int)) (.slice a2 n2 c2);have hbf:=below_res hB35 hr0 (.int .u64 (ver:Int)) (.int .u32 (next:Int)) (.slice a2 n2 c2);have hat5:=(((HAT.out.later hb35).set (p:=⟨r,0,none⟩) hrl1 (.int .u64 (ver:Int))).set (p:=⟨r,1,none⟩) hrl1 (.int .u32 (next:Int))).set (p:=⟨r,2,none⟩) hrl1 (.slice a2 n2 c2);refine bodyPost_ret (v:=.tuple #[.agg #[.int .u64 (ver:Int),.int .u32 (next:Int),.slice a2 n2 c2],.int .i64 0]) (by simp[results,Tryz.f76,go_sem,y0,y1,y2]) rfl ?_;rw[HYES.out];exact⟨⟨_,rfl,hat5.base HB01.out.size⟩,hbf⟩
end Read
namespace Read
open Go.RowKit Go.Deep Mem Crc Mani Full Go.Proofs.YtfgjnpbffppocaaGreatDoor.Man Dk
abbrev MT:=Nat×Nat×List Fil
def stepR (s:Option MT×Bool) (b:List UInt8):Option MT×Bool:=
 (match getS b with
  |none=>s.1
  |some p=>match s.1 with
   |none=>some p
   |some q=>if q.1<p.1 then some p else some q,s.2|| !b.any (·!=0))
def stR (bl:List (List UInt8)):Nat->Option MT×Bool
 |0=>(none,false)
 |j+1=>stepR (stR bl j) (slotB bl j)
def readM (bl:List (List UInt8)):Option MT×Bool:=stR bl 2
def ReadOn (w:World) (s:Option MT×Bool) (e:Ending) (w':World):Prop:=
 match s.1 with
 |none=>e=.returned (.tuple #[noneV,.int .i64 (if s.2 then 0 else 5)])
 |some p=>∃v,e=.returned (.tuple #[v,.int .i64 0])/\ManAt w w' v p.1 p.2.1 p.2.2
def BestIs (wb wr:World) (bb:Nat):Option MT->Prop
 |none=>Blk wr bb 101 #[.int .u64 0,.int .u32 0,.slice none 0 0]
 |some p=>∃a n c,Blk wr bb 101 #[.int .u64 (p.1:Int),.int .u32 (p.2.1:Int),.slice a n c]/\ManAt wb wr (.agg #[.int .u64 (p.1:Int),.int .u32 (p.2.1:Int),.slice a n c]) p.1 p.2.1 p.2.2
theorem BestIs.later {wb wr w':World} {bb:Nat} {o:Option MT} (h:BestIs wb wr bb o) (hB:Below wr.heap.size wr w'):BestIs wb w' bb o:=by
 cases o with
 |none=>exact Blk.below h hB h.lt
 |some p=>
  obtain⟨a,n,c,h1,h2⟩:=h;exact⟨a,n,c,h1.below hB h1.lt,h2.later hB⟩
attribute [local go_sem] Oper.semAt_some
theorem mread_on {d g:Nat} {wv:Value} {m:DM} {w:World} (h:Dk w d g wv m) (hoff:m.off=false) (hwt:m.wt= []) (h33:33<=m.bl.length):
  Calls Tryz.prog 45 #[.pointer (some ⟨d,0,none⟩)] w λe w'=>ReadOn w (readM m.bl) e w'/\Below w.heap.size w w':=by
 have hal:=(Below.refl w.heap.size w).alloc jn (Obj.cells #[Value.int .u64 0,Value.int .u32 0,Value.slice none 0 0] 101);have hC:=jq (Dk.count_any (h.later hal));have HA:=jq hal;have hd0:decide ((m.bl.length:Int)<=32)=false:=jf (by omega);obtain⟨W,hW⟩:=jl ((w.alloc (Obj.cells #[Value.int .u64 0,Value.int .u32 0,Value.slice none 0 0] 101)).alloc (Obj.cells #[Value.int .u64 0,Value.int .u32 0,Value.slice none 0 0] 101));obtain⟨r,hr⟩:=jl w.heap.size;obtain⟨q,hq⟩:=jl (w.heap.size+1);have hb0:Blk W r 101 #[Value.int .u64 0,Value.int .u32 0,Value.slice none 0 0]:=by rw[hW,hr];exact(Blk.new w _ _).alloc _
 have hb1:Blk W q 101 #[Value.int .u64 0,Value.int .u32 0,Value.slice none 0 0]:=by rw[hW,hq];exact Blk.at_ (by simp)
 have hBW:Below w.heap.size w W:=by rw[hW];exact HA.out.alloc (by simp) _
 have H:=jq h;have HB0:=jq hb0;have HB1:Hid (BestIs W W q (stR m.bl 0).1):=jq hb1;have HBW:=jq hBW;have HBWW:=jq (Below.refl W.heap.size W);have hr0:w.heap.size<=r:=by rw[hr];exact Nat.le_refl _
 have hq0:w.heap.size<=q:=by rw[hq];omega
 have hrl:=hb0.lt;have hql:=hb1.lt;have hne:q≠r:=by omega
 clear hal h hb0 hb1 hBW
 go_enter Tryz.func45,Tryz.ntmps45
 go_wp2_with fail
 refine hC.out.mono ?_;rintro e w1 ⟨rfl,rfl⟩
 go_wp2_with fail
 rw[<-hW,<-hq,<-hr];clear hC HA hd0 hW hr hq
 go_loopw[5,6,15] (λf b i wr=>∃(j:Nat) (o:Option MT) (k:Bool),j<=2/\f=.bool o.isSome/\b=.bool k/\i=.int .i64 (j:Int)/\Hid (stR m.bl j=(o,k))/\Hid (Blk wr r 101 #[Value.int .u64 0,Value.int .u32 0,Value.slice none 0 0])/\Hid (BestIs W wr q o)/\Hid (Below w.heap.size w wr)/\Hid (W.heap.size<=wr.heap.size)) (λ_ _ i _=>2-(intOf i).toNat)
 case atStart=>exact⟨0,none,false,by omega,rfl,rfl,rfl,jq rfl,HB0,HB1,HBW,jq jn⟩
 case round=>
  obtain⟨j,o,k,hj,rfl,rfl,rfl,hst,hb0,hbo,hB,hWr⟩:=hrel
  by_cases hj2:j<2
  ·have hd:decide ((j:Int) <2)=true:=by simp;omega
   have hS:=jq (slot_on j hj2 (H.out.later hB.out) hoff hwt h33);obtain⟨bs,hbs⟩:=jl (slotB m.bl j);have hlen:bs.length=2048:=by rw[hbs];exact slotB_length H.out.len hj2 h33
   have hst2:stR m.bl (j+1)=stepR (o,k) bs:=by show stepR (stR m.bl j) (slotB m.bl j)=_;rw[hst.out,hbs]
   rw[<-hbs]at hS;obtain⟨bn,hbn⟩:=jl bs.length;have HST:=jq hst2;have HLEN:=jq hlen;have HBN:=jq hbn;have hsz:=hB.out.size;obtain⟨nz,hnz⟩:=jl (bs.any (·!=0));have HNZ:=jq hnz;clear hbs hlen hst2 hst hnz
   go_wp2_with fail
   refine hS.out.mono ?_;rintro e w1 ⟨v,rfl,hO,hB1⟩;obtain⟨va,vc,ev,hvc,hL,_,_⟩:=own_shape hO;subst ev;have hcc:=contains_any' va vc bs w1 hL (by rw[HLEN.out];omega);have hgg:=mget_any va vc bs w1 hL hvc (by rw[HLEN.out];omega);rw[<-HNZ.out]at hcc;rw[<-hbn]at hcc hgg⊢;have HCC:=jq hcc;have HGG:=jq hgg;have HB01:=jq (hb0.out.below hB1 hb0.out.lt);have HBO1:=jq (hbo.out.later hB1);have hBB:=hB.out.trans (hB1.mono hsz);have HBB:=jq hBB;have hWr1:=Nat.le_trans hWr.out hB1.size;have HBN:=jq hbn;clear hO hL hcc hgg hB1 hd hS hBB hvc hbn hbo hb0 hB hWr;obtain⟨k2,hk2⟩:=jl ((k|| !nz));have HK2:=jq hk2;clear hk2;cases k
   all_goals
    go_wp2_with (first|(go_at_call 74;refine HCC.out.mono ?_;rintro e w2 ⟨rfl,rfl⟩))
    refine HGG.out.mono ?_;rintro e w3 ⟨hG,hB3⟩;have hwb:=Nat.le_trans hWr1 hB3.size;have hB03:=HBB.out.trans (hB3.mono HBB.out.size);have hb03:=HB01.out.below hB3 HB01.out.lt;have hbo3:=HBO1.out.later hB3
    cases hgs:getS bs with
    |none=>
     rw[hgs]at hG;obtain rfl:e=_:=hG;unfold noneV;have hst3:stR m.bl (j+1)=(o,k2):=by rw[HST.out,HK2.out,HNZ.out];unfold stepR;rw[hgs]
     have HST3:=jq hst3;have HB3:=jq hB3;have HB03:=jq hB03;have Hb03:=jq hb03;have HBO3:=jq hbo3;clear hgs hst3 hB3 hB03 hb03 hbo3
     go_wp2_with fail
     exact⟨⟨j+1,o,k2,hj2,rfl,by rw[HK2.out];simp,by simp,HST3,jq (Hb03.out.alloc _),jq (HBO3.out.later ((Below.refl _ w3).alloc jn _)),jq (HB03.out.alloc HB03.out.size _),jq (by simp;omega)⟩,by simp[intOf];omega⟩
    |some p=>
     rw[hgs]at hG;obtain⟨v,rfl,hat⟩:=hG;obtain⟨pv,pn,pf⟩:=p;dsimp only at hat;obtain⟨a3,c3,l3,rfl,hl3,hF3,ha3,hx3⟩:=hat;obtain⟨n3,hn3⟩:=jl l3.length
     have hatW:ManAt W w3 (.agg #[.int .u64 (pv:Int),.int .u32 (pn:Int),.slice a3 n3 c3]) pv pn pf:=by
      rw[hn3];exact ManAt.base ⟨a3,c3,l3,rfl,hl3,hF3,ha3,hx3⟩ hWr1
     rw[<-hn3];have halc:=(Below.refl w3.heap.size w3).alloc jn (.cells #[.int .u64 (pv:Int),.int .u32 (pn:Int),.slice a3 n3 c3] 101);have hmx:=Blk.new w3 101 #[.int .u64 (pv:Int),.int .u32 (pn:Int),.slice a3 n3 c3];have e0:=hmx.cell 0;have e1:=hmx.cell 1;have e2:=hmx.cell 2
     simp at e0 e1 e2
     have HATW:=jq hatW;have HB03:=jq hB03;have Hb03:=jq hb03;clear hl3 hF3 ha3 hx3 hn3 hatW hmx hB3 hB03 hb03
     cases o with
     |none=>
      have hst3:stR m.bl (j+1)=(some (pv,pn,pf),k2):=by rw[HST.out,HK2.out,HNZ.out];unfold stepR;rw[hgs]
      have hbq:Blk (w3.alloc (.cells #[.int .u64 (pv:Int),.int .u32 (pn:Int),.slice a3 n3 c3] 101)) q 101 #[.int .u64 0,.int .u32 0,.slice none 0 0]:=hbo3.later halc;have b0:=hbq.cell 0;have b1:=hbq.cell 1;have b2:=hbq.cell 2;have z0:=hbq.frozen 0;have z1:=hbq.frozen 1;have z2:=hbq.frozen 2
      simp at b0 b1 b2 z0 z1 z2
      have HST3:=jq hst3;have hbs:=((hbq.set 0 (.int .u64 (pv:Int))).set 1 (.int .u32 (pn:Int))).set 2 (.slice a3 n3 c3);have hat5:=(((HATW.out.later halc).set (p:=⟨q,0,none⟩) hql (.int .u64 (pv:Int))).set (p:=⟨q,1,none⟩) hql (.int .u32 (pn:Int))).set (p:=⟨q,2,none⟩) hql (.slice a3 n3 c3);have HBS:=jq hbs;have HAT5:=jq hat5;have HR5:=jq ((((Hb03.out.alloc (.cells #[.int .u64 (pv:Int),.int .u32 (pn:Int),.slice a3 n3 c3] 101)).far (p:=⟨q,0,none⟩) hne.symm (.int .u64 (pv:Int))).far (p:=⟨q,1,none⟩) hne.symm (.int .u32 (pn:Int))).far (p:=⟨q,2,none⟩) hne.symm (.slice a3 n3 c3));have HB5:=jq (below_res (HB03.out.alloc HB03.out.size (.cells #[.int .u64 (pv:Int),.int .u32 (pn:Int),.slice a3 n3 c3] 101)) hq0 (.int .u64 (pv:Int)) (.int .u32 (pn:Int)) (.slice a3 n3 c3));clear hst3 hgs hbq hbs hat5 halc
      go_wp2_with fail
      exact⟨⟨j+1,some (pv,pn,pf),k2,hj2,rfl,by rw[HK2.out];simp,by simp,HST3,HR5,jq ⟨a3,n3,c3,HBS.out,HAT5.out⟩,HB5,jq (by simp;omega)⟩,by simp[intOf];omega⟩
     |some o=>
      obtain⟨qv,qn,qf⟩:=o;obtain⟨oa,on,oc,hbo4,hat4⟩:=hbo3;dsimp only at hbo4 hat4;have hbq:=hbo4.below halc hbo4.lt;have b0:=hbq.cell 0
      simp at b0
      by_cases hlt:qv<pv
      ·have hlti:decide ((qv:Int) <(pv:Int))=true:=jd (by omega);have hst3:stR m.bl (j+1)=(some (pv,pn,pf),k2):=by rw[HST.out,HK2.out,HNZ.out];unfold stepR;rw[hgs];dsimp only;rw[if_pos hlt]
       have b1:=hbq.cell 1;have b2:=hbq.cell 2;have z0:=hbq.frozen 0;have z1:=hbq.frozen 1;have z2:=hbq.frozen 2
       simp at b1 b2 z0 z1 z2
       have HST3:=jq hst3;have hbs:=((hbq.set 0 (.int .u64 (pv:Int))).set 1 (.int .u32 (pn:Int))).set 2 (.slice a3 n3 c3);have hat5:=(((HATW.out.later halc).set (p:=⟨q,0,none⟩) hql (.int .u64 (pv:Int))).set (p:=⟨q,1,none⟩) hql (.int .u32 (pn:Int))).set (p:=⟨q,2,none⟩) hql (.slice a3 n3 c3);have HBS:=jq hbs;have HAT5:=jq hat5;have HR5:=jq ((((Hb03.out.alloc (.cells #[.int .u64 (pv:Int),.int .u32 (pn:Int),.slice a3 n3 c3] 101)).far (p:=⟨q,0,none⟩) hne.symm (.int .u64 (pv:Int))).far (p:=⟨q,1,none⟩) hne.symm (.int .u32 (pn:Int))).far (p:=⟨q,2,none⟩) hne.symm (.slice a3 n3 c3));have HB5:=jq (below_res (HB03.out.alloc HB03.out.size (.cells #[.int .u64 (pv:Int),.int .u32 (pn:Int),.slice a3 n3 c3] 101)) hq0 (.int .u64 (pv:Int)) (.int .u32 (pn:Int)) (.slice a3 n3 c3));clear hst3 hgs hbq hbs hat5 halc hbo4 hat4
       go_wp2_with fail
       exact⟨⟨j+1,some (pv,pn,pf),k2,hj2,rfl,by rw[HK2.out];simp,by simp,HST3,HR5,jq ⟨a3,n3,c3,HBS.out,HAT5.out⟩,HB5,jq (by simp;omega)⟩,by simp[intOf];omega⟩
      ·have hlti:decide ((qv:Int) <(pv:Int))=false:=jf (by omega);have hst3:stR m.bl (j+1)=(some (qv,qn,qf),k2):=by rw[HST.out,HK2.out,HNZ.out];unfold stepR;rw[hgs];dsimp only;rw[if_neg hlt]
       have HST3:=jq hst3;have HBQ:=jq hbq;have HAT4:=jq (hat4.later halc);clear hst3 hgs hbq hbo4 hat4 halc
       go_wp2_with fail
       exact⟨⟨j+1,some (qv,qn,qf),k2,hj2,rfl,by rw[HK2.out];simp,by simp,HST3,jq (Hb03.out.alloc _),jq ⟨oa,on,oc,HBQ.out,HAT4.out⟩,jq (HB03.out.alloc HB03.out.size _),jq (by simp;omega)⟩,by simp[intOf];omega⟩
  ·obtain rfl:j=2:=by omega
   have hd:decide ((2:Int) <2)=false:=by decide
   have hfin:readM m.bl=(o,k):=hst.out;have p0:=hb0.out.cell 0;have p1:=hb0.out.cell 1;have p2:=hb0.out.cell 2;have f0:=hb0.out.frozen 0;have f1:=hb0.out.frozen 1;have f2:=hb0.out.frozen 2
   simp at p0 p1 p2
   have HFIN:=jq hfin;clear hfin hst
   cases o with
   |none=>
    have hbq:Blk wr q 101 #[.int .u64 0,.int .u32 0,.slice none 0 0]:=hbo.out;have q0:=hbq.cell 0;have q1:=hbq.cell 1;have q2:=hbq.cell 2
    simp at q0 q1 q2
    have y:=res_set hb0.out (.int .u64 0) (.int .u32 0) (.slice none 0 0);have HBF:=jq (below_res hB.out hr0 (.int .u64 0) (.int .u32 0) (.slice none 0 0));clear hbq;cases k
    ·go_wp2_with fail
     obtain⟨y0,y1,y2⟩:=y;refine bodyPost_ret (v:=.tuple #[.agg #[.int .u64 0,.int .u32 0,.slice none 0 0],.int .i64 5]) (by simp[results,Tryz.f45,go_sem,y0,y1,y2]) rfl ?_;rw[HFIN.out];exact⟨rfl,HBF.out⟩
    ·go_wp2_with fail
     obtain⟨y0,y1,y2⟩:=y;refine bodyPost_ret (v:=.tuple #[.agg #[.int .u64 0,.int .u32 0,.slice none 0 0],.int .i64 0]) (by simp[results,Tryz.f45,go_sem,y0,y1,y2]) rfl ?_;rw[HFIN.out];exact⟨rfl,HBF.out⟩
   |some o=>
    obtain⟨qv,qn,qf⟩:=o;obtain⟨oa,on,oc,hbq,hat⟩:=hbo.out;dsimp only at hbq hat;have q0:=hbq.cell 0;have q1:=hbq.cell 1;have q2:=hbq.cell 2
    simp at q0 q1 q2
    have y:=res_set hb0.out (.int .u64 (qv:Int)) (.int .u32 (qn:Int)) (.slice oa on oc);have HBF:=jq (below_res hB.out hr0 (.int .u64 (qv:Int)) (.int .u32 (qn:Int)) (.slice oa on oc));have HAT:=jq (((hat.set (p:=⟨r,0,none⟩) hrl (.int .u64 (qv:Int))).set (p:=⟨r,1,none⟩) hrl (.int .u32 (qn:Int))).set (p:=⟨r,2,none⟩) hrl (.slice oa on oc));clear hbq hat
    go_wp2_with fail
    obtain⟨y0,y1,y2⟩:=y;refine bodyPost_ret (v:=.tuple #[.agg #[.int .u64 (qv:Int),.int .u32 (qn:Int),.slice oa on oc],.int .i64 0]) (by simp[results,Tryz.f45,go_sem,y0,y1,y2]) rfl ?_;rw[HFIN.out];exact⟨⟨_,rfl,HAT.out.base HBW.out.size⟩,HBF.out⟩
end Read
namespace Full
open Go.RowKit Go.Deep Mem Crc Dk Mani Go.Proofs.YtfgjnpbffppocaaGreatDoor.Read
theorem beyond_any {d g:Nat} {wv:Value} {m:DM} {w:World} (h:Dk w d g wv m) {bx:Nat} (hb:Blk w bx 30 #[.pointer (some ⟨d,0,none⟩)]) (i:Nat):
  Calls Tryz.prog 47 #[.int .i64 (i:Int),.pointer (some ⟨bx,0,none⟩)] w λe w'=>e=.returned (.bool (decide (m.bl.length<=i)))/\Below w.heap.size w w':=by
 have hc:∀x:World,Below w.heap.size w x->Calls Tryz.prog 48 #[.pointer (some ⟨d,0,none⟩)] x λe w'=>e=.returned (.int .i64 (m.bl.length:Int))/\w'=x:=λx hx=>Dk.count_any (h.later hx)
 have HC:=jq hc;have c0:=hb.cell 0
 simp at c0
 clear h hb hc
 go_enter Tryz.func47,Tryz.ntmps47
 go_wp2_with fail
 refine(HC.out _ (by first|exact Below.refl _ _|exact(Below.refl _ _).drew)).mono ?_;rintro e w1 ⟨rfl,rfl⟩
 go_wp2_with fail
 go_ret
 exact⟨rfl,by first|exact Below.refl _ _|exact(Below.refl _ _).drew⟩
theorem beyond_index {d g:Nat} {wv:Value} {m:DM} {w:World} (h:Dk w d g wv m) {bx:Nat} (hb:Blk w bx 30 #[.pointer (some ⟨d,0,none⟩)]) (a:Option Addr) (cp:Nat) (l:List Nat) (hL:Lies w a (l.map iv)) (hn:l.length<=4000000):
  Calls Tryz.prog 77 #[.slice a l.length cp,.func (.func 47) #[] #[.pointer (some ⟨bx,0,none⟩)]] w λe w'=>∃i:Int,e=.returned (.int .i64 i)/\decide (0<=i)=l.any (λi=>decide (m.bl.length<=i))/\Below w.heap.size w w':=by
 have hbe:∀(x:World) (i:Nat),Below w.heap.size w x->Calls Tryz.prog 47 #[.int .i64 (i:Int),.pointer (some ⟨bx,0,none⟩)] x λe w'=>e=.returned (.bool (decide (m.bl.length<=i)))/\Below x.heap.size x w':=λx i hx=>beyond_any (h.later hx) (hb.below hx hb.lt) i
 have HBE:=jq hbe;have HL:=jq hL;obtain⟨n,hnn⟩:=jl l.length;rw[<-hnn]at hn⊢;have HN:=jq hnn;clear h hb hbe hnn hL
 go_enter Tryz.func77,Tryz.ntmps77
 go_wp2_with fail
 go_loopw[8] (λi wr=>∃j:Nat,j<=n/\i=.int .i64 (j:Int)/\Hid (Below w.heap.size w wr)/\Hid ((l.take j).any (λi=>decide (m.bl.length<=i))=false)) (λi _=>n-(intOf i).toNat)
 case atStart=>exact⟨0,by omega,rfl,jq (Below.refl _ _),jq rfl⟩
 case round=>
  obtain⟨j,hj,rfl,hB,hz⟩:=hrel
  by_cases hjn:j<n
  ·have hjd:decide ((j:Int) <(n:Int))=true:=jd (by omega);obtain⟨c,hc⟩:∃c,l[j]? =some c:=⟨l[j]'(by rw[<-HN.out];exact hjn),jg _⟩;obtain⟨g,off,rfl,_,hcs⟩:=(HL.out.later hB.out).resolve_left (λe=>by rw[List.map_eq_nil_iff.1 e]at hc;simp at hc);have c0:wr.cell? ⟨g,off+j,none⟩=some (.int .i64 (c:Int)):=hcs j _ (by rw[List.getElem?_map,hc];rfl);have hst: (l.take (j+1)).any (λi=>decide (m.bl.length<=i))=((l.take j).any (λi=>decide (m.bl.length<=i))||decide (m.bl.length<=c)):=by rw[List.take_add_one,hc,List.any_append];simp
   have hin:decide (m.bl.length<=c)=true->l.any (λi=>decide (m.bl.length<=i))=true:=λh=>List.any_eq_true.2 ⟨c,jM hc,h⟩
   rw[hz.out,Bool.false_or]at hst;have his:∀x:World,Below wr.heap.size wr x->Calls Tryz.prog 47 #[.int .i64 (c:Int),.pointer (some ⟨bx,0,none⟩)] x λe w'=>e=.returned (.bool (decide (m.bl.length<=c)))/\Below wr.heap.size wr w':=λx hx=>(HBE.out x c (hB.out.trans (hx.mono hB.out.size))).mono (λe w' hh=>⟨hh.1,hx.trans (hh.2.mono hx.size)⟩)
   obtain⟨nz,hnz⟩:=jl (decide (m.bl.length<=c));rw[<-hnz]at hst hin his;have HIS:=jq his;have HST:=jq hst;have HIN:=jq hin;clear hcs hc his hst hin hnz hz;cases nz
   ·go_wp2_with (first|(go_at_call 47;refine(HIS.out _ (by first|exact Below.refl _ _|exact(Below.refl _ _).drew)).mono ?_;rintro e w1 ⟨rfl,hB1⟩;have HB1:=jq (hB.out.trans (hB1.mono hB.out.size));clear hB1))
    exact⟨⟨j+1,hjn,by simp,HB1,HST⟩,by simp[intOf];omega⟩
   ·go_wp2_with (first|(go_at_call 47;refine(HIS.out _ (by first|exact Below.refl _ _|exact(Below.refl _ _).drew)).mono ?_;rintro e w1 ⟨rfl,hB1⟩;have HB1:=jq (hB.out.trans (hB1.mono hB.out.size));clear hB1))
    go_ret
    exact⟨_,rfl,by rw[HIN.out (by trivial)];exact jd (by omega),HB1.out⟩
  ·obtain rfl:n=j:=by omega
   have hjd:decide ((n:Int) <(n:Int))=false:=jf (by omega);have hz2:=hz.out;rw[jW (by rw[HN.out];exact Nat.le_refl _)]at hz2;have HZ:=jq hz2;clear hz2 hz
   go_wp2_with fail
   go_ret
   exact⟨_,rfl,by rw[HZ.out];rfl,hB.out⟩
theorem beyond_has {d g:Nat} {wv:Value} {m:DM} {w:World} (h:Dk w d g wv m) {bx:Nat} (hb:Blk w bx 30 #[.pointer (some ⟨d,0,none⟩)]) (a:Option Addr) (cp:Nat) (l:List Nat) (hL:Lies w a (l.map iv)) (hn:l.length<=4000000):
  Calls Tryz.prog 46 #[.slice a l.length cp,.func (.func 47) #[] #[.pointer (some ⟨bx,0,none⟩)]] w λe w'=>e=.returned (.bool (l.any (λi=>decide (m.bl.length<=i))))/\Below w.heap.size w w':=by
 have H:=jq (beyond_index h hb a cp l hL hn);clear h;obtain⟨n,hnn⟩:=jl l.length;rw[<-hnn]at H⊢;obtain⟨z,hz⟩:=jl (l.any (λi=>decide (m.bl.length<=i)));rw[<-hz]at H⊢;clear hnn hz hn hb hL
 go_enter Tryz.func46,Tryz.ntmps46
 go_wp2_with fail
 refine H.out.mono ?_;rintro e w1 ⟨i,rfl,hi,hB1⟩;have HB1:=jq hB1;clear hB1
 go_wp2_with fail
 go_ret
 exact⟨by rw[<-hi];rfl,HB1.out⟩
end Full
namespace Full
open Go.RowKit Go.Deep Mem Crc Go.Maps Dk Mani Go.Proofs.YtfgjnpbffppocaaGreatDoor.Read
open Store (Chg none' nv)
structure GOk (p:MT):Prop where
 ver:p.1<18446744073709551616
 next:p.2.1<4294967296
 got:∀f∈p.2.2,FGot f
 few:p.2.2.length<=2048
 bks: (bksL p.2.2).length<=5000
 may:p=(0,0,[])\/mayB p.1 p.2.1 p.2.2=true
theorem getS_ok {b:List UInt8} {p:MT} (hb:b.length=2048) (h:getS b=some p):GOk p:=by
 have hgl:=got_len b;unfold getS at h
 by_cases h1: (Frame.got b).2.2.2=0/\(Frame.got b).1=77
 ·rw[if_pos h1]at h
  by_cases h2: (readS (Frame.got b).2.1).err=0/\mayB (readS (Frame.got b).2.1).ver (readS (Frame.got b).2.1).next (readS (Frame.got b).2.1).fs=true
  ·rw[if_pos h2]at h;have h:=Option.some.inj h;subst h;obtain⟨a1,a2,a3,a4,a5⟩:=readS_le (Frame.got b).2.1;exact⟨by show(readS _).ver<_;omega,by show(readS _).next<_;omega,a3,a4,by show(bksL (readS _).fs).length<=_;omega,.inr h2.2⟩
  ·rw[if_neg h2]at h;cases h
 ·rw[if_neg h1]at h;cases h
theorem stR_ok (bl:List (List UInt8)) (hb:∀j,j<2->(Man.slotB bl j).length=2048):∀(j:Nat) (p:MT),j<=2->(stR bl j).1=some p->GOk p
 |0,p,_,h=>by cases h
 |j+1,p,hj,h=>by
  have ih:=λp=>stR_ok bl hb j p (by omega)
  have hbj:=hb j (by omega);have e:stR bl (j+1)=stepR (stR bl j) (Man.slotB bl j):=rfl;rw[e]at h;unfold stepR at h;dsimp only at h;cases hg:Read.getS (Man.slotB bl j)with
  |none=>rw[hg]at h;exact ih p h
  |some x=>
   rw[hg]at h;dsimp only at h
   cases hs: (stR bl j).1 with
   |none=>rw[hs]at h;rw[<-Option.some.inj h];exact getS_ok hbj hg
   |some y=>
    rw[hs]at h;dsimp only at h
    by_cases hlt:y.1<x.1
    ·rw[if_pos hlt]at h;rw[<-Option.some.inj h];exact getS_ok hbj hg
    ·rw[if_neg hlt]at h;exact ih p (hs.trans h)
theorem readM_ok {bl:List (List UInt8)} {p:MT} {k:Bool} (hb:∀j,j<2->(Man.slotB bl j).length=2048) (h:readM bl=(some p,k)):GOk p:=stR_ok bl hb 2 p jn (by show(readM bl).1=_;rw[h])
theorem bks_ge {fs:List Fil} {f:Fil} (h:f∈fs):f.blocks.length<=(bksL fs).length:=by
 obtain⟨s,t,rfl⟩:=List.append_of_mem h;unfold Mani.bksL;rw[List.flatMap_append,jC,jL,jL]
 omega
def openL (m:DM):Int×DM×MT:=
 match (readM m.bl).1 with
 |none=>(if(readM m.bl).2 then 0 else 5,m,(0,0,[]))
 |some p=>
  if p.2.2.any (λf=>f.blocks.any (λi=>decide (m.bl.length<=i)))then(9,m,p)
  else if p.1=0 then(0,m,p)
  else((m.mani p.1 (manL p.1 p.2.1 p.2.2)).2,(m.mani p.1 (manL p.1 p.2.1 p.2.2)).1,p)
def Opened (w:World) (d g:Nat) (o:Int×DM×MT) (e:Ending) (w':World) (wv':Value):Prop:=
 if o.1=0 then∃s cm a c l,e=.returned (.tuple #[.pointer (some ⟨s,0,none⟩),.int .i64 0])/\(l:List FR).map FR.f=o.2.2.2.2/\Fu w' (λk=>Has d g wv' k\/(w.heap.size<=k/\k<w'.heap.size)) s d g cm wv' o.2.1 o.2.2.1 o.2.2.2.1 a c l false none'
 else e=.returned (.tuple #[.pointer none,.int .i64 o.1])
theorem fu_new {w w2 w':World} {d g:Nat} {wv:Value} {m:DM} {ver next:Nat} {a:Option Addr} {c:Nat} {l:List FR} (hs:w.heap.size<=w2.heap.size) (hd:Dk w2 d g wv m) (hf:FilesIn w2 a l) (ha:∀b,Mem.blk a=some b->w.heap.size<=b/\b<w2.heap.size) (hx:∀x∈l,∀b,Mem.blk x.a=some b->w.heap.size<=b/\b<w2.heap.size) (hna:∀b,Mem.blk a=some b->¬Has d g wv b) (hnx:∀x∈l,∀b,Mem.blk x.a=some b->¬Has d g wv b)
  (hw:w'=(w2.alloc (.map #[] 0)).alloc (.cells #[.pointer (some ⟨d,0,none⟩),.int .u64 (ver:Int),.int .u32 (next:Int),.slice a l.length c,.map (some w2.heap.size),.bool false] 111)):
  Fu w' (λk=>Has d g wv k\/(w.heap.size<=k/\k<w'.heap.size)) (w2.heap.size+1) d g w2.heap.size wv m ver next a c l false none':=by
 subst hw;have hB:Below w2.heap.size w2 ((w2.alloc (.map #[] 0)).alloc (.cells #[.pointer (some ⟨d,0,none⟩),.int .u64 (ver:Int),.int .u32 (next:Int),.slice a l.length c,.map (some w2.heap.size),.bool false] 111)):=((Below.refl _ w2).alloc jn _).alloc (by simp) _;have hsz: ((w2.alloc (.map #[] 0)).alloc (.cells #[.pointer (some ⟨d,0,none⟩),.int .u64 (ver:Int),.int .u32 (next:Int),.slice a l.length c,.map (some w2.heap.size),.bool false] 111)).heap.size=w2.heap.size+2:=by simp
 have hmap:MapIs ((w2.alloc (.map #[] 0)).alloc (.cells #[.pointer (some ⟨d,0,none⟩),.int .u64 (ver:Int),.int .u32 (next:Int),.slice a l.length c,.map (some w2.heap.size),.bool false] 111)) 9 w2.heap.size (λ_=>none):=(MapIs.made w2 _).keep (Below.heap_alloc _ _ _ (by simp));refine⟨Blk.at_ (by simp),hd.later hB,hf.later hB,λk hk=>?_,λx hx2 k hk=>?_,⟨_,hmap,λx h=>absurd rfl h,λnm=>rfl⟩,.inr ⟨by omega,by omega⟩,.inr ⟨by omega,by omega⟩,λk hk=>.inl hk,λk hk=>?_⟩
 ·have h1:=ha k hk;exact⟨.inr ⟨h1.1,by omega⟩,by omega,by omega,hna k hk⟩
 ·have h1:=hx x hx2 k hk;exact⟨.inr ⟨h1.1,by omega⟩,by omega,by omega,hnx x hx2 k hk⟩
 ·rcases hk with hk|hk
  ·have:=hd.lt k hk
   omega
  ·exact hk.2
theorem gok_none:GOk (0,0,[]):=⟨by decide,by decide,λf hf=>(List.not_mem_nil hf).elim,Nat.zero_le _,Nat.zero_le _,.inl rfl⟩
def goL (m:DM) (p:MT):Int×DM×MT:=
 if p.2.2.any (λf=>f.blocks.any (λi=>decide (m.bl.length<=i)))then(9,m,p)
 else if p.1=0 then(0,m,p)
 else((m.mani p.1 (manL p.1 p.2.1 p.2.2)).2,(m.mani p.1 (manL p.1 p.2.1 p.2.2)).1,p)
theorem mread_go {d g:Nat} {wv:Value} {m:DM} {w:World} (h:Dk w d g wv m) (hoff:m.off=false) (hwt:m.wt= []) (h33:33<=m.bl.length):
  Calls Tryz.prog 45 #[.pointer (some ⟨d,0,none⟩)] w λe w'=>Below w.heap.size w w'/\((e=.returned (.tuple #[noneV,.int .i64 5])/\openL m=(5,m,(0,0,[])))\/∃p v,e=.returned (.tuple #[v,.int .i64 0])/\ManAt w w' v p.1 p.2.1 p.2.2/\GOk p/\openL m=goL m p):=
 (mread_on h hoff hwt h33).mono (λe w' hh=>by
  obtain⟨h1,h2⟩:=hh;refine⟨h2,?_⟩
  cases hrm:readM m.bl with
  |mk o k=>
   rw[hrm]at h1
   cases o with
   |none=>
    have h1:e=.returned (.tuple #[noneV,.int .i64 (if k then 0 else 5)]):=h1
    cases k with
    |false=>exact .inl ⟨h1,by unfold openL;rw[hrm];rfl⟩
    |true=>exact .inr ⟨(0,0,[]),noneV,h1,manAt_none _ _,gok_none,by unfold openL;rw[hrm];rfl⟩
   |some p=>
    obtain⟨v,h3,h4⟩:=h1;exact .inr ⟨p,v,h3,h4,readM_ok (λj hj=>Man.slotB_length h.len hj h33) hrm,by unfold openL goL;rw[hrm]⟩)
attribute [local go_sem] Oper.semAt_some
theorem open_on {d g:Nat} {wv:Value} {m:DM} {w:World} (h:Dk w d g wv m) (hoff:m.off=false) (hwt:m.wt= []) (h33:33<=m.bl.length):
  Calls Tryz.prog 19 #[.pointer (some ⟨d,0,none⟩)] w λe w'=>∃wv',Dk w' d g wv' (openL m).2.1/\Upon (Has d g wv) w w'/\(∀k,wv'.ownBlock=some k->wv.ownBlock=some k\/w.heap.size<=k)/\Opened w d g (openL m) e w' wv':=by
 obtain⟨W0,hW0⟩:=jl (w.alloc (.cells #[.pointer (some ⟨d,0,none⟩)] 30));obtain⟨bx,hbx⟩:=jl w.heap.size;have hal:Below w.heap.size w W0:=by rw[hW0];exact(Below.refl w.heap.size w).alloc jn _
 have hb:Blk W0 bx 30 #[.pointer (some ⟨d,0,none⟩)]:=by rw[hW0,hbx];exact Blk.new w _ _
 have hs0:W0.heap.size=w.heap.size+1:=by rw[hW0];simp
 have hrd:∀x:World,Below W0.heap.size W0 x->Calls Tryz.prog 45 #[.pointer (some ⟨d,0,none⟩)] x λe w'=>Below x.heap.size x w'/\((e=.returned (.tuple #[noneV,.int .i64 5])/\openL m=(5,m,(0,0,[])))\/∃p v,e=.returned (.tuple #[v,.int .i64 0])/\ManAt x w' v p.1 p.2.1 p.2.2/\GOk p/\openL m=goL m p):=λx hx=>mread_go ((h.later hal).later hx) hoff hwt h33
 have HRD:=jq hrd;have HD:=jq h;have HDL:=jq h.lt;have HAL:=jq hal;have HB:=jq hb;have c0:=hb.cell 0
 simp at c0
 clear h hal hb hrd
 go_enter Tryz.func19,Tryz.ntmps19
 go_wp2_with fail
 rw[<-hW0,<-hbx];have HBE:=jq hbx;clear hW0 hbx;refine(HRD.out _ (by first|exact Below.refl _ _|exact(Below.refl _ _).drew)).mono ?_;rintro e w1 ⟨hB1,hR⟩;have hs1:=hB1.size;have hB01:=HAL.out.trans (hB1.mono HAL.out.size);have hbx1:=HB.out.below hB1 HB.out.lt;have HB01:=jq hB01;have HBX1:=jq hbx1;rcases hR with⟨rfl,hO⟩|⟨p,v,rfl,hat,hok,hO⟩
 ·have HO:=jq hO;unfold noneV;clear hO hB1 hB01 hbx1
  go_wp2_with fail
  go_ret2
  have hbl:Below w.heap.size w (w1.alloc (.cells #[.int .u64 0,.int .u32 0,.slice none 0 0] 101)):=HB01.out.alloc HB01.out.size _;rw[HO.out];exact⟨wv,HD.out.later hbl,Upon.of_below hbl,λk hk=>.inl hk,rfl⟩
 ·obtain⟨ver,next,fs⟩:=p;obtain⟨a,c,l,rfl,hl,hF,ha,hx⟩:=hat;dsimp only at hl ha hx;obtain⟨n,hn⟩:=jl l.length;rw[<-hn];obtain⟨W,hW⟩:=jl (w1.alloc (.cells #[.int .u64 (ver:Int),.int .u32 (next:Int),.slice a n c] 101));obtain⟨mb,hmb⟩:=jl w1.heap.size;have hman:Blk W mb 101 #[.int .u64 (ver:Int),.int .u32 (next:Int),.slice a n c]:=by rw[hW,hmb];exact Blk.new w1 _ _
  have hB1W:Below w1.heap.size w1 W:=by rw[hW];exact(Below.refl _ w1).alloc jn _
  have hFW:=hF.later hB1W;have hbxW:=hbx1.below hB1W hbx1.lt;have hBW:Below w.heap.size w W:=hB01.trans (hB1W.mono hB01.size);have hn2:n<=2048:=by rw[hn,<-List.length_map (f:=FR.f),hl];exact hok.few
  have haW:∀b,Mem.blk a=some b->w.heap.size<=b/\b<W.heap.size:=λb hb=>⟨by have:=(ha b hb).1;omega,Nat.lt_of_lt_of_le (ha b hb).2 hB1W.size⟩
  have hxW:∀x∈l,∀b,Mem.blk x.a=some b->w.heap.size<=b/\b<W.heap.size:=λx hx2 b hb=>⟨by have:=(hx x hx2 b hb).1;omega,Nat.lt_of_lt_of_le (hx x hx2 b hb).2 hB1W.size⟩
  have m0:=hman.cell 0;have m1:=hman.cell 1;have m2:=hman.cell 2
  simp at m0 m1 m2
  have HO:=jq hO;have HOK:=jq hok;have HL:=jq hl;have HN:=jq hn;have HMAN:=jq hman;have HFW:=jq hFW;have HBXW:=jq hbxW;have HBW:=jq hBW;have HAW:=jq haW;have HXW:=jq hxW;have hmbw:w.heap.size<=mb:=by rw[hmb];exact hB01.size
  clear hO hok hl hn hman hFW hbxW hBW haW hxW hF ha hx hB1 hB01 hbx1 hB1W
  go_wp2_with fail
  rw[<-hW,<-hmb];clear hW hmb m0 m1 m2
  go_loopw[20] (λi wr=>∃k:Nat,k<=n/\i=.int .i64 (k:Int)/\Hid (Below W.heap.size W wr)/\Hid ((fs.take k).any (λf=>f.blocks.any (λi=>decide (m.bl.length<=i)))=false)) (λi _=>n-(intOf i).toNat)
  case atStart=>exact⟨0,Nat.zero_le _,rfl,jq (Below.refl _ _),jq rfl⟩
  case round=>
   obtain⟨k,hk,rfl,hB,hz⟩:=hrel
   by_cases hkn:k<n
   ·have hkd:decide ((k:Int) <(n:Int))=true:=jd (by omega);obtain⟨x,hx⟩:∃x,l[k]? =some x:=⟨l[k]'(by rw[<-HN.out];exact hkn),jg _⟩;have hFr:=HFW.out.later hB.out;obtain⟨g,o,rfl,e0,e1,e2,e3⟩:=hFr.cells hx;have hxm:=jM hx;have hbk:=hFr.blocks x hxm;have hfx:fs[k]? =some x.f:=by rw[<-HL.out,List.getElem?_map,hx];rfl
    have hst: (fs.take (k+1)).any (λf=>f.blocks.any (λi=>decide (m.bl.length<=i)))=((fs.take k).any (λf=>f.blocks.any (λi=>decide (m.bl.length<=i)))||x.f.blocks.any (λi=>decide (m.bl.length<=i))):=by rw[List.take_add_one,hfx,List.any_append];simp
    rw[hz.out,Bool.false_or]at hst;have hany:x.f.blocks.any (λi=>decide (m.bl.length<=i))=true->fs.any (λf=>f.blocks.any (λi=>decide (m.bl.length<=i)))=true:=λhh=>List.any_eq_true.2 ⟨x.f,jM hfx,hh⟩
    have hln:x.f.blocks.length<=4000000:=by
     have h1:=bks_ge (jM hfx);have h2:=HOK.out.bks;dsimp only at h2
     omega
    have hhas:∀y:World,Below wr.heap.size wr y->Calls Tryz.prog 46 #[.slice x.a x.f.blocks.length x.c,.func (.func 47) #[] #[.pointer (some ⟨bx,0,none⟩)]] y λe w'=>e=.returned (.bool (x.f.blocks.any (λi=>decide (m.bl.length<=i))))/\Below wr.heap.size wr w':=λy hy=>
     (beyond_has ((HD.out.later (HBW.out.trans (hB.out.mono HBW.out.size))).later hy) ((HBXW.out.below hB.out HBXW.out.lt).below hy (HBXW.out.below hB.out HBXW.out.lt).lt) x.a x.c x.f.blocks (hbk.1.later hy) hln).mono (λe w' hh=>⟨hh.1,hy.trans (hh.2.mono hy.size)⟩)
    obtain⟨nz,hnz⟩:=jl (x.f.blocks.any (λi=>decide (m.bl.length<=i)));obtain⟨xl,hxl⟩:=jl x.f.blocks.length;obtain⟨nv,hnv⟩:∃b:ByteArray,sv x.f.name=.string b:=⟨_,rfl⟩;unfold iv at e2;rw[<-hnz]at hst hany hhas;rw[<-hxl]at hhas e3;rw[hnv]at e0;have HHAS:=jq hhas;have HST:=jq hst;have HANY:=jq hany;clear hhas hst hany hnz hxl hnv hz hfx hbk hxm hx hFr;cases nz
    ·go_wp2_with (first|(go_at_call 46;refine(HHAS.out _ (by first|exact(Below.refl _ wr).alloc jn _|exact((Below.refl _ wr).alloc jn _).drew)).mono ?_;rintro e w3 ⟨rfl,hB3⟩;have HB3:=jq (hB.out.trans (hB3.mono hB.out.size));clear hB3))
     exact⟨⟨k+1,hkn,by simp,HB3,HST⟩,by simp[intOf];omega⟩
    ·go_wp2_with (first|(go_at_call 46;refine(HHAS.out _ (by first|exact(Below.refl _ wr).alloc jn _|exact((Below.refl _ wr).alloc jn _).drew)).mono ?_;rintro e w3 ⟨rfl,hB3⟩;have HB3:=jq (hB.out.trans (hB3.mono hB.out.size));clear hB3))
     go_ret2
     have hbl:=HBW.out.trans (HB3.out.mono HBW.out.size);have hol:openL m=(9,m,(ver,next,fs)):=by rw[HO.out];unfold goL;rw[if_pos (HANY.out (by trivial))]
     rw[hol];exact⟨wv,HD.out.later hbl,Upon.of_below hbl,λk hk=>.inl hk,rfl⟩
   ·obtain rfl:n=k:=by omega
    have hkd:decide ((n:Int) <(n:Int))=false:=jf (by omega)
    have hany:fs.any (λf=>f.blocks.any (λi=>decide (m.bl.length<=i)))=false:=by
     have h1:=hz.out;rw[jW (by rw[HN.out,<-HL.out,jP];exact Nat.le_refl _)]at h1;exact h1
    have hman:=HMAN.out.below hB.out HMAN.out.lt;have hbxr:=HBXW.out.below hB.out HBXW.out.lt;have m0:=hman.cell 0;have m1:=hman.cell 1;have m2:=hman.cell 2;have d0:=hbxr.cell 0
    simp at m0 m1 m2 d0
    have hFr:=HFW.out.later hB.out;have hBr:=HBW.out.trans (hB.out.mono HBW.out.size);have hDr:=HD.out.later hBr;have HANY:=jq hany;have HFR:=jq hFr;have HBR:=jq hBr;have HDR:=jq hDr;have HMR:=jq hman;have HXR:=jq hbxr;clear hany hFr hBr hDr hman hbxr hz;have hlt:∀b,w.heap.size<=b->b≠d/\b≠g:=λb hb=>⟨λe=>by have:=HDL.out d (.inl rfl);omega,λe=>by have:=HDL.out g (.inr (.inl rfl));omega⟩
    have HLT:=jq hlt;have hsW:=hB.out.size;clear hlt
    by_cases hv:ver=0
    ·subst hv;have hmk:=run_makeMap (P:=Tryz.prog) 109 wr
     go_wp2_with fail
     go_ret2
     have hol:openL m=(0,m,(0,next,fs)):=by rw[HO.out];unfold goL;rw[if_neg (by rw[HANY.out];exact Bool.false_ne_true),if_pos rfl]
     have hB2:Below wr.heap.size wr ((wr.alloc (.map #[] 0)).alloc (.cells #[.pointer (some ⟨d,0,none⟩),.int .u64 0,.int .u32 (next:Int),.slice a n c,.map (some wr.heap.size),.bool false] 111)):=((Below.refl _ wr).alloc jn _).alloc (by simp) _;rw[hol];refine⟨wv,HDR.out.later hB2,(Upon.of_below HBR.out).trans (Upon.of_below hB2) (λ_ hk=>.inl hk),λk hk=>.inl hk,?_⟩;unfold Opened;rw[if_pos rfl];exact⟨wr.heap.size+1,wr.heap.size,a,c,l,rfl,HL.out,fu_new HBR.out.size HDR.out HFR.out (λb hb=>⟨(HAW.out b hb).1,Nat.lt_of_lt_of_le (HAW.out b hb).2 hsW⟩) (λx hx b hb=>⟨(HXW.out x hx b hb).1,Nat.lt_of_lt_of_le (HXW.out x hx b hb).2 hsW⟩) (λb hb hh=>by have h1:=(HAW.out b hb).1;have h2:=HDL.out b hh;omega) (λx hx b hb hh=>by have h1:=(HXW.out x hx b hb).1;have h2:=HDL.out b hh;omega) (by rw[<-HN.out];rfl)⟩
    ·have hvd:decide (0<ver)=true:=jd (by omega)
     have hmay:mayB ver next fs=true:=by
      rcases HOK.out.may with e|e
      ·exact absurd (congrArg Prod.fst e) hv
      ·exact e
     have hwr:=write_any ver next a c l wr HDR.out hoff h33 (by rw[hwt];exact Nat.zero_le _) HFR.out HOK.out.ver HOK.out.next (λx hx=>(HOK.out.got x.f (by show x.f∈fs;rw[<-HL.out];exact List.mem_map_of_mem hx)).fits) (by rw[HL.out];exact hmay);rw[HL.out,<-HN.out]at hwr;have hol:openL m=((m.mani ver (manL ver next fs)).2,(m.mani ver (manL ver next fs)).1,(ver,next,fs)):=by rw[HO.out];unfold goL;rw[if_neg (by rw[HANY.out];exact Bool.false_ne_true),if_neg hv]
     obtain⟨mm,hmm⟩:=jl (m.mani ver (manL ver next fs));rw[<-hmm]at hwr hol;obtain⟨m',E⟩:=mm;dsimp only at hwr hol;have HWR:=jq hwr;have HOL:=jq hol;clear hwr hol hmm hmay
     go_wp2_with fail
     refine HWR.out.mono ?_;rintro e w3 ⟨rfl,wv',hD3,hu3,ho3⟩;have hnm:¬Has d g wv mb:=λhh=>by have:=HDL.out mb hh;omega
     have hnb:¬Has d g wv bx:=λhh=>by have h1:=HDL.out bx hh;have h2:=HBE.out;omega
     have hman:=HMR.out.upon hu3 hnm;have hbxr:=HXR.out.upon hu3 hnb;have m0:=hman.cell 0;have m1:=hman.cell 1;have m2:=hman.cell 2;have d0:=hbxr.cell 0
     simp at m0 m1 m2 d0
     have hs3:=hu3.size;have HD3:=jq hD3;have HU3:=jq ((Upon.of_below HBR.out).trans hu3 (λ_ hk=>.inl hk));have HO3:Hid (∀k,wv'.ownBlock=some k->wv.ownBlock=some k\/wr.heap.size<=k):=jq ho3;have HU4:=jq hu3;clear hD3 hu3 ho3 hman hbxr hnm hnb;have hown:Hid (∀k,wv'.ownBlock=some k->wv.ownBlock=some k\/w.heap.size<=k):=jq (λk hk=>(HO3.out k hk).imp id (λh=>Nat.le_trans HBR.out.size h));obtain⟨z,hz⟩:∃b:Bool,(E==0)=b:=⟨_,rfl⟩;cases z
     ·have hnz: (E !=0)=true:=by simpa using hz
      have hE:E≠0:=by simpa using hz
      have HE:=jq hE;clear hE
      go_wp2_with fail
      go_ret2
      rw[HOL.out];refine⟨wv',HD3.out,HU3.out,hown.out,?_⟩;unfold Opened;rw[if_neg HE.out]
      rfl
     ·have hE:E=0:=by simpa using hz
      subst hE;have hmk:=run_makeMap (P:=Tryz.prog) 109 w3
      go_wp2_with fail
      go_ret2
      have hB2:Below w3.heap.size w3 ((w3.alloc (.map #[] 0)).alloc (.cells #[.pointer (some ⟨d,0,none⟩),.int .u64 (ver:Int),.int .u32 (next:Int),.slice a n c,.map (some w3.heap.size),.bool false] 111)):=((Below.refl _ w3).alloc jn _).alloc (by simp) _;have hf3:FilesIn w3 a l:=HFR.out.keep hs3 (λk hk=>HU4.out.block k (Nat.lt_of_lt_of_le (HAW.out k hk).2 hsW) (λhh=>by have h1:=(HAW.out k hk).1;have h2:=HDL.out k hh;omega)) (λx hx k hk=>HU4.out.block k (Nat.lt_of_lt_of_le (HXW.out x hx k hk).2 hsW) (λhh=>by have h1:=(HXW.out x hx k hk).1;have h2:=HDL.out k hh;omega))
      have hno:∀b,w.heap.size<=b->b<W.heap.size->¬Has d g wv' b:=λb h1 h2 hh=>by
       rcases hh with e|e|e
       ·exact(HLT.out b h1).1 e
       ·exact(HLT.out b h1).2 e
       ·rcases HO3.out b e with h3|h3
        ·have:=HDL.out b (.inr (.inr h3))
         omega
        ·omega
      rw[HOL.out];refine⟨wv',HD3.out.later hB2,HU3.out.trans (Upon.of_below hB2) (λ_ hk=>.inl hk),hown.out,?_⟩;unfold Opened;rw[if_pos rfl];exact⟨w3.heap.size+1,w3.heap.size,a,c,l,rfl,HL.out,fu_new (Nat.le_trans HBR.out.size hs3) HD3.out hf3 (λb hb=>⟨(HAW.out b hb).1,by have:=(HAW.out b hb).2;omega⟩) (λx hx b hb=>⟨(HXW.out x hx b hb).1,by have:=(HXW.out x hx b hb).2;omega⟩) (λb hb=>hno b (HAW.out b hb).1 (HAW.out b hb).2) (λx hx b hb=>hno b (HXW.out x hx b hb).1 (HXW.out x hx b hb).2) (by rw[<-HN.out])⟩
end Full
namespace Full
open Go.RowKit Dk Mani Go.Proofs.YtfgjnpbffppocaaGreatDoor.Read Man
open Store (Chg none' nv Files)
theorem slotB_of {bl:List (List UInt8)} {b:List UInt8} {n:Nat} (hb:b.length=2048) (h:∀k,k<16->bl[n*16+k]? =some ((b.drop (k*128)).take 128)):slotB bl n=b:=by
 have hj:∀j,j<=16->slotJ bl n j=b.take (j*128):=by
  intro j
  induction j with
  |zero=>intro _;simp[slotJ]
  |succ j ih=>
   intro hj;rw[slotJ_succ (h j (by omega)),ih (by omega),Nat.succ_mul,List.take_add]
 unfold Man.slotB;rw[hj 16 jn,jW (by omega)]
theorem slotW_nodup (at_:Nat) (b:List UInt8): ((slotW at_ b).map Prod.fst).Nodup:=by
 unfold Dk.slotW;rw[List.map_map];refine List.Pairwise.map _ (λx y hxy=>?_) (List.nodup_range (n:=16));show at_+x≠at_+y;have:x≠y:=hxy
 omega
theorem slotW_mem (at_:Nat) (b:List UInt8) {k:Nat} (hk:k<16): (at_+k,(b.drop (k*128)).take 128)∈slotW at_ b:=List.mem_map.2 ⟨k,List.mem_range.2 hk,rfl⟩
theorem slots_at {bl:List (List UInt8)} {b:List UInt8} (ver:Nat) {j:Nat} (hb:b.length=2048) (h33:33<=bl.length) (hj:j<2):slotB (puts (puts bl (slotW (ver%2*16) b)) (slotW ((ver+1)%2*16) b)) j=b:=by
 refine slotB_of hb (λk hk=>?_);have h2:=Nat.mod_lt ver (show 0<2 by decide)
 by_cases e:j=(ver+1)%2
 ·subst e;exact puts_at _ _ _ _ (slotW_nodup _ _) (slotW_mem _ _ hk) (by rw[puts_length];omega)
 ·have e2:j=ver%2:=by omega
  subst e2;rw[puts_other _ _ _ (λhm=>by have:=slotW_keys hm;omega)];exact puts_at _ _ _ _ (slotW_nodup _ _) (slotW_mem _ _ hk) (by omega)
def Slots (bl:List (List UInt8)) (ver next:Nat) (fs:List Fil):Prop:=
 (ver=0/\next=0/\fs= []/\∀j,j<2->slotB bl j=Man.zb 2048)\/∀j,j<2->slotB bl j=manL ver next fs
theorem getS_zero:getS (Man.zb 2048)=none:=by
 unfold getS;rw[Man.got_zero]
 rfl
theorem zb_any: (Man.zb 2048).any (·!=0)=false:=by
 refine Bool.eq_false_iff.2 (λh=>?_);obtain⟨x,hx,h2⟩:=List.any_eq_true.1 h;unfold Man.zb at hx;rw[List.eq_of_mem_replicate hx]at h2;cases h2
theorem readM_slots {bl:List (List UInt8)} {n ver next:Nat} {fs:List Fil} (h:Slots bl ver next fs) (hok:Okm n ver next fs): (readM bl=(none,true)/\ver=0/\next=0/\fs= [])\/(readM bl).1=some (ver,next,fs):=by
 rcases h with⟨h1,h2,h3,h4⟩|h
 ·refine .inl ⟨?_,h1,h2,h3⟩;show stepR (stepR (none,false) (slotB bl 0)) (slotB bl 1)=_;rw[h4 0 (by decide),h4 1 (by decide)];unfold stepR;rw[getS_zero,zb_any]
  rfl
 ·refine .inr ?_;show(stepR (stepR (none,false) (slotB bl 0)) (slotB bl 1)).1=_;rw[h 0 (by decide),h 1 (by decide)];unfold stepR;rw[getS_man hok];dsimp only;rw[if_neg (Nat.lt_irrefl _)]
theorem mani_free {m:DM} (h:m.fuse<0) (ver:Nat) (b:List UInt8): (m.mani ver b).2=0/\(m.mani ver b).1.fuse=m.fuse:=by
 obtain⟨a1,a2⟩:=slot_free h (ver%2*16) b;obtain⟨b1,b2⟩:=slot_free (m:=(m.slot (ver%2*16) b).1) (by rw[a2];exact h) ((ver+1)%2*16) b;unfold DM.mani;rw[if_pos a1];exact⟨b1,b2.trans a2⟩
structure SlotW (m m':DM):Prop where
 off:m'.off=m.off
 wt:m'.wt= []
 fuse:m'.fuse=m.fuse
 len:m'.bl.length=m.bl.length
 far:∀i,32<=i->m'.bl[i]? =m.bl[i]?
theorem openL_slots {m:DM} {ver next:Nat} {fs:List Fil} (h:Slots m.bl ver next fs) (hok:Okm m.bl.length ver next fs) (hf:m.fuse<0) (hw:m.wt= []) (h33:33<=m.bl.length):∃m',openL m=(0,m',(ver,next,fs))/\SlotW m m'/\Slots m'.bl ver next fs:=by
 have hrf:SlotW m m:=⟨rfl,hw,rfl,rfl,λ_ _=>rfl⟩;rcases readM_slots h hok with⟨h1,rfl,rfl,rfl⟩|h1
 ·refine⟨m,?_,hrf,h⟩;unfold openL;rw[h1]
  rfl
 ·have hin: (fs.any (λf=>f.blocks.any (λi=>decide (m.bl.length<=i))))=false:=by
   refine Bool.eq_false_iff.2 (λhh=>?_);obtain⟨f,hff,h2⟩:=List.any_eq_true.1 hh;obtain⟨i,hi,h3⟩:=List.any_eq_true.1 h2;have h4:=of_decide_eq_true h3;have h5:=hok.in_ f hff i hi
   omega
  by_cases hv:ver=0
  ·refine⟨m,?_,hrf,h⟩;unfold openL;rw[h1];dsimp only;rw[hin,if_neg Bool.false_ne_true,if_pos hv]
  ·obtain⟨f1,f2⟩:=mani_free hf ver (manL ver next fs);obtain⟨b1,b2,b3⟩:=mani_bl hw f1;refine⟨(m.mani ver (manL ver next fs)).1,?_,⟨b2,b3,f2,by rw[b1,puts_length,puts_length],λi hi=>?_⟩,.inr (λj hj=>?_)⟩
   ·unfold openL;rw[h1];dsimp only;rw[hin,if_neg Bool.false_ne_true,if_neg hv,f1]
   ·have h2:=Nat.mod_lt ver (show 0<2 by decide);rw[b1,puts_other _ _ _ (λhm=>by have:=slotW_keys hm;omega),puts_other _ _ _ (λhm=>by have:=slotW_keys hm;omega)]
   ·rw[b1];exact slots_at ver (manL_length hok.may) h33 hj
theorem slots_commit {m:DM} {C:Chg} {n ver next:Nat} {fs:List Fil} (hw:m.wt= []) (h33:33<=m.bl.length) (hok:Okm n ver next fs) (h: (commitD m C fs ver (manL ver next fs)).2=0):Slots (commitD m C fs ver (manL ver next fs)).1.bl ver next fs:=.inr (λj hj=>by
 rw[(commit_bl hw h).1];exact slots_at ver (manL_length hok.may) (by rw[puts_length];exact h33) hj)
theorem PagesAt.far {bl bl':List (List UInt8)} {f:Fil} {b:List UInt8} (h:PagesAt bl f b) (hf:∀i∈f.blocks,bl'[i]? =bl[i]?):PagesAt bl' f b:=⟨h.size,h.many,λk i hk=>by rw[hf i (jM hk)];exact h.at_ k i hk⟩
theorem OnDisk.far {bl bl':List (List UInt8)} {n ver next:Nat} {fs:List Fil} {H:Files} (h:OnDisk bl fs H) (hok:Okm n ver next fs) (hf:∀i,32<=i->bl'[i]? =bl[i]?):OnDisk bl' fs H:=⟨λf hff=>by
 obtain⟨b,h1,h2⟩:=h.there f hff;exact⟨b,h1,h2.far (λi hi=>hf i ((hok.ok.each f hff).blocks i hi).1)⟩,h.none_⟩
end Full
namespace Full
open Go.RowKit Go.Deep Mem Crc Go.Maps Dk Mani Go.Proofs.YtfgjnpbffppocaaGreatDoor.Read
open Store (Chg none' nv Files)
theorem on_open {B s d g cm:Nat} {w:World} {Q:Nat->Prop} {m:DM} {ver next:Nat} {fs:List Fil} {C:Chg} {H:Files} {n:Nat} (h:On B s d g cm w Q m ver next fs C H n) (hz:m.fuse<0) (hs:Slots m.bl ver next fs):
  Calls Tryz.prog 19 #[.pointer (some ⟨d,0,none⟩)] w λe w'=>∃s' cm' Q' m',e=.returned (.tuple #[.pointer (some ⟨s',0,none⟩),.int .i64 0])/\On B s' d g cm' w' Q' m' ver next fs none' H 0/\Slots m'.bl ver next fs/\m'.bl.length=m.bl.length/\(∀k,Q' k->Q k\/w.heap.size<=k)/\Upon Q w w'/\m'.fuse<0:=by
 obtain⟨wv,a,c,l,hfu,hl⟩:=h.fu;obtain⟨m',hm,hS,hs'⟩:=openL_slots hs h.ok hz h.wt h.big;refine(open_on hfu.disk h.off h.wt h.big).mono ?_;rintro e w' ⟨wv',hD,hu,ho,hop⟩;rw[hm]at hD hop;unfold Opened at hop;rw[if_pos rfl]at hop;obtain⟨s',cm',a',c',l',he,hl',hf'⟩:=hop;have hQ:∀k,Has d g wv k->Q k:=hfu.qd;have hu2:Upon Q w w':=hu.mono hQ
 have hq:∀k,(Has d g wv' k\/(w.heap.size<=k/\k<w'.heap.size))->Q k\/w.heap.size<=k:=λk hk=>by
  rcases hk with(rfl|rfl|e)|e
  ·exact .inl (hQ _ (.inl rfl))
  ·exact .inl (hQ _ (.inr (.inl rfl)))
  ·exact(ho k e).imp (λe2=>hQ k (.inr (.inr e2))) id
  ·exact .inr e.1
 exact⟨s',cm',_,m',he,⟨⟨wv',a',c',l',hf',hl'⟩,hS.off.trans h.off,hS.wt,(by rw[hS.len];exact h.big),h.on.far h.ok hS.far,(by rw[hS.len];exact h.ok),few_none 0,λk hk=>(hq k hk).elim (h.base k) (λh8=>Nat.le_trans h.low h8),h.tab.below (h.up hu2) h.pos,h.pos,Nat.le_trans h.low hu2.size⟩,hs',hS.len,hq,hu2,by rw[hS.fuse];exact hz⟩
theorem slots_new (N:Nat) (h:33<=N):Slots (D0 N).bl 0 0 []:=.inl ⟨rfl,rfl,rfl,λj hj=>by
 refine slotB_of (by unfold Man.zb;exact List.length_replicate) (λk hk=>?_);unfold D0 Man.zb;rw[List.getElem?_replicate,if_pos (by omega),List.drop_replicate,List.take_replicate]
 congr 2
 omega⟩
theorem slots_after {m:DM} {C:Chg} {n ver:Nat} {p:Nat×List Fil} (hw:m.wt= []) (h33:33<=m.bl.length) (hok:Okm n (ver+1) p.1 p.2) (hf:m.fuse<0):Slots (afterD m C ver p).bl (ver+1) p.1 p.2:=
 slots_commit hw h33 hok (commit_free hf C p.2 (ver+1) (manL (ver+1) p.1 p.2)).1
end Full
namespace Full
open Go.RowKit Go.Deep Mem Crc Go.Maps Dk Mani RefF
open Store (Chg none' nv Files Sto setC setF)
open Ext (Tab)
structure AtX (B s d cnt:Nat) (o:Option Obj) (H:Files) (w:World) (Q:Nat->Prop) (off:Bool) (F:Files) (n:Nat):Prop where
 on:∃g cm m ver next fs C k Q0,On B s d g cm w Q0 m ver next fs C H k/\Slots m.bl ver next fs/\m.fuse<0/\m.bl.length=cnt/\F=nowF C H/\k+20000<=n/\∀x,Q x↔Q0 x\/x=0
 up:off=false
 few:n<=100000
 zero:w.heap[0]? =o
theorem On.zero {B s d g cm:Nat} {w w':World} {Q:Nat->Prop} {m:DM} {ver next:Nat} {fs:List Fil} {C:Chg} {H:Files} {n:Nat} (h:On B s d g cm w Q m ver next fs C H n) (hu:Upon Q w w'):w'.heap[0]? =w.heap[0]?:=
 hu.block 0 h.tab.lt (λhq=>by have:=h.base 0 hq;have:=h.pos;omega)
def stoX (B s d cnt:Nat) (o:Option Obj) (H:Files):Sto s where
 At:=AtX B s d cnt o H
 lt h k hk:=by
  obtain⟨g,cm,m,ver,next,fs,C,j,Q0,ho,-,-,-,-,-,hq⟩:=h.on;rcases(hq k).1 hk with h1|h1
  ·exact ho.lt k h1
  ·rw[h1];exact ho.tab.lt
 keep h hsz hk:=by
  obtain⟨g,cm,m,ver,next,fs,C,j,Q0,ho,h1,h2,h3,hF,hn,hq⟩:=h.on;exact⟨⟨g,cm,m,ver,next,fs,C,j,Q0,ho.stays hsz (λk h1=>hk k ((hq k).2 h1)),h1,h2,h3,hF,hn,hq⟩,h.up,h.few,(hk 0 ((hq 0).2 (.inr rfl))).trans h.zero⟩
 short h nm b hb:=by
  obtain⟨g,cm,m,ver,next,fs,C,j,Q0,ho,-,-,-,hF,-,-⟩:=h.on;rw[hF]at hb;exact ho.short hb
 write h hn nm a1 a2 a cp b hL hb:=by
  obtain⟨g,cm,m,ver,next,fs,C,j,Q0,ho,h1,h2,h3,hF,hj,hq⟩:=h.on;refine(on_write ho (by omega) nm a1 a2 a cp b hL hb).mono ?_;rintro e w' ⟨rfl,Q',ho',hq',hu⟩;exact⟨rfl,λx=>Q' x\/x=0,⟨⟨g,cm,m,ver,next,fs,_,_,Q',ho',h1,h2,h3,by rw[hF,nowF_setF],by omega,λx=>Iff.rfl⟩,rfl,by omega,(ho.zero hu).trans h.zero⟩,λk hk=>hk.elim (λh3=>(hq' k h3).imp (λh4=>(hq k).2 (.inl h4)) id) (λh3=>.inl ((hq k).2 (.inr h3))),hu.mono (λk hk=>(hq k).2 (.inl hk))⟩
 write_off h x a m cp:=by have:=h.up;cases this
 read_some h nm b hb:=by
  obtain⟨g,cm,m,ver,next,fs,C,j,Q0,ho,-,-,-,hF,hj,hq⟩:=h.on;rw[hF]at hb;have:=on_read ho nm (by have:=(ho.short hb).1;omega);rw[hb]at this;exact this
 read_none h nm hn hb:=by
  obtain⟨g,cm,m,ver,next,fs,C,j,Q0,ho,-,-,-,hF,hj,hq⟩:=h.on;rw[hF]at hb;have:=on_read ho nm hn;rw[hb]at this;exact this
 read_off h x:=by have:=h.up;cases this
 remove h hn nm hf:=by
  obtain⟨g,cm,m,ver,next,fs,C,j,Q0,ho,h1,h2,h3,hF,hj,hq⟩:=h.on;rw[hF]at hf
  have hl:nm.length<=32:=by
   cases hb:nowF C H nm with
   |none=>exact absurd hb hf
   |some b=>exact(ho.short hb).1
  refine(on_remove ho (by omega) nm hl hf).mono ?_;rintro e w' ⟨rfl,Q',ho',hq',hu⟩;exact⟨rfl,λx=>Q' x\/x=0,⟨⟨g,cm,m,ver,next,fs,_,_,Q',ho',h1,h2,h3,by rw[hF,nowF_setF],by omega,λx=>Iff.rfl⟩,rfl,by omega,(ho.zero hu).trans h.zero⟩,λk hk=>hk.elim (λh3=>(hq' k h3).imp (λh4=>(hq k).2 (.inl h4)) id) (λh3=>.inl ((hq k).2 (.inr h3))),hu.mono (λk hk=>(hq k).2 (.inl hk))⟩
 remove_off h x:=by have:=h.up;cases this
 names h:=by
  obtain⟨g,cm,m,ver,next,fs,C,j,Q0,ho,-,-,-,hF,hj,hq⟩:=h.on;have hfew:=h.few;refine(on_names ho (by omega)).mono ?_;rintro e w' ⟨v,ss,rfl,h1,h2,h3,h4,h5⟩;exact⟨v,ss,rfl,h1,λnm=>by rw[hF];exact h2 nm,by omega,h5⟩
variable {B s d cnt n:Nat} {o:Option Obj} {H F:Files} {w:World} {Q:Nat->Prop}
theorem On.atX {g cm:Nat} {m:DM} {ver next:Nat} {fs:List Fil} {C:Chg} (h:On B s d g cm w Q m ver next fs C H 0) (hs:Slots m.bl ver next fs) (hz:m.fuse<0) (hl:m.bl.length=cnt) (ho:w.heap[0]? =o): (stoX B s d cnt o H).At w (λx=>Q x\/x=0) false (nowF C H) 20000:=
 ⟨⟨g,cm,m,ver,next,fs,C,0,Q,h,hs,hz,hl,rfl,by omega,λx=>Iff.rfl⟩,rfl,by omega,ho⟩
theorem stoX_commit (h: (stoX B s d cnt o H).At w Q false F n) (hn:n<=29000):
  Calls Tryz.prog 35 #[.pointer (some ⟨s,0,none⟩)] w λe w'=>
   (e=.returned (.int .i64 0)/\∃Q',(stoX B s d cnt o F).At w' Q' false F 20000/\(∀k,Q' k->Q k\/w.heap.size<=k)/\Upon Q w w')\/(e=.returned (.int .i64 7)/\Below w.heap.size w w'):=by
 obtain⟨g,cm,m,ver,next,fs,C,k,Q0,ho,hs,hz,hl,hF,hk,hq⟩:=h.on
 by_cases hC:∀nm,C nm=none
 ·obtain rfl:C=none':=funext hC;rw[nowF_none]at hF;subst hF;refine(on_commit_none ho hC).mono ?_;rintro e w' ⟨rfl,rfl⟩;have ho':On B s d g cm w' Q0 m ver next fs none' F 0:=⟨ho.fu,ho.off,ho.wt,ho.big,ho.on,ho.ok,few_none 0,ho.base,ho.tab,ho.pos,ho.low⟩;have hx:=ho'.atX hs hz hl h.zero;rw[nowF_none]at hx;exact .inl ⟨rfl,_,hx,λx hx=>.inl ((hq x).2 hx),Upon.refl _ _⟩
 ·obtain⟨ss,hK⟩:=keys_exist ho.few;refine(on_commit ho hz (by omega) hK hC).mono ?_;intro e w' hc
  cases hp:planM C ss m.bl.length ver next fs with
  |none=>
   rw[hp]at hc;exact .inr hc
  |some p=>
   rw[hp]at hc;obtain⟨he,Q',hon,hq',hu⟩:=hc;have z1:=(commit_free hz C p.2 (ver+1) (manL (ver+1) p.1 p.2)).1;have hx:=hon.atX (cnt:=cnt) (slots_after ho.wt ho.big hon.ok hz) (after_fuse hz C ver p) ((commit_len ho.wt z1).trans hl) ((ho.zero hu).trans h.zero);rw[nowF_none,<-hF]at hx;refine .inl ⟨he,_,hx,λx hx=>?_,hu.mono (λx hx=>(hq x).2 (.inl hx))⟩;rcases hx with hx|hx
   ·exact(hq' x hx).imp (λh3=>(hq x).2 (.inl h3)) id
   ·exact .inl ((hq x).2 (.inr hx))
theorem stoX_open (h: (stoX B s d cnt o H).At w Q false F n):
  Calls Tryz.prog 19 #[.pointer (some ⟨d,0,none⟩)] w λe w'=>∃s' Q',e=.returned (.tuple #[.pointer (some ⟨s',0,none⟩),.int .i64 0])/\(stoX B s' d cnt o H).At w' Q' false H 20000/\(∀k,Q' k->Q k\/w.heap.size<=k)/\Upon Q w w':=by
 obtain⟨g,cm,m,ver,next,fs,C,k,Q0,ho,hs,hz,hl,hF,hk,hq⟩:=h.on;refine(on_open ho hz hs).mono ?_;rintro e w' ⟨s',cm',Q',m',rfl,hon,hs',hl',hq',hu,hz'⟩;have hx:=hon.atX (cnt:=cnt) hs' hz' (hl'.trans hl) ((ho.zero hu).trans h.zero);rw[nowF_none]at hx;refine⟨s',_,rfl,hx,λx hx=>?_,hu.mono (λx hx=>(hq x).2 (.inl hx))⟩;rcases hx with hx|hx
 ·exact(hq' x hx).imp (λh3=>(hq x).2 (.inl h3)) id
 ·exact .inl ((hq x).2 (.inr hx))
theorem stoX_base (h: (stoX B s d cnt o H).At w Q false F n): (∀k,Q k->B<=k\/k=0)/\Tab w/\0<B/\B<=w.heap.size/\w.heap[0]? =o:=by
 obtain⟨g,cm,m,ver,next,fs,C,k,Q0,ho,-,-,-,-,-,hq⟩:=h.on;exact⟨λx hx=>((hq x).1 hx).imp (ho.base x) id,ho.tab,ho.pos,ho.low,h.zero⟩
theorem stoX_new {s d g cm N:Nat} {B:Nat} {w:World} {Q:Nat->Prop} (h:Store.St w Q s d g N cm false none') (hN:33<=N) (hN2:N<=2000) (hT:Tab w) (hB:0<B) (hBw:B<=w.heap.size) (hq:∀k,Q k->B<=k): (stoX B s d N w.heap[0]? (λ_=>none)).At w (λx=>Q x\/x=0) false (λ_=>none) 20000:=by
 have hon:On B s d g cm w Q (D0 N) 0 0 [] none' (λ_=>none) 0:=⟨⟨_,_,_,_,h.full (by omega),rfl⟩,rfl,rfl,by rw[d0_len];exact hN,on_none N,by rw[d0_len];exact okm_none N,few_none 0,hq,hT,hB,hBw⟩;have:=hon.atX (slots_new N hN) (show(-1:Int) <0 by decide) (d0_len N) rfl
 rwa [nowF_none]at this
end Full
namespace Pool
open Go.RowKit Go.Deep Mem Crc Walk
open Store (Sto Files setF nv)
open Full
theorem same_eq (a1 a2:Option Addr) (c1 c2:Nat) (l:List (List Nat)) (w:World) (h1:Lies w a1 (flatW l)) (h2:Lies w a2 (flatW l)) (hok:∀x∈l,ok x) (hm:l.length<=1000000):
  Calls Tryz.prog 30 #[.slice a1 l.length c1,.slice a2 l.length c2] w λe w'=>e=.returned (.bool true)/\Below w.heap.size w w':=by
 have H1:=jq h1;have H2:=jq h2;have HOK:=jq hok;obtain⟨n,hn⟩:=jl l.length;rw[<-hn]at hm⊢;have HN:=jq hn;clear h1 h2 hok hn
 go_enter Tryz.func30,Tryz.ntmps30
 go_wp2_with fail
 go_loopw[13] (λi wr=>∃k:Nat,k<=n/\i=.int .i64 (k:Int)/\Hid (Below w.heap.size w wr)) (λi _=>n-(intOf i).toNat)
 case atStart=>exact⟨0,Nat.zero_le _,rfl,jq (Below.refl _ _)⟩
 case round=>
  obtain⟨k,hk,rfl,hB⟩:=hrel
  by_cases hlt:k<n
  ·have hx:l[k]? =some l[k]:=jg (by rw[<-HN.out];exact hlt);obtain⟨x,hxe⟩:∃x,x=l[k]'(by rw[<-HN.out];exact hlt):=⟨_,rfl⟩;rw[<-hxe]at hx;have hxo:=HOK.out x (jM hx);have hL1:=H1.out.later hB.out;have hL2:=H2.out.later hB.out
   have hne:flatW l≠[]:=λe=>by
    have:=flatW_length l HOK.out;rw[e]at this
    simp at this
    have:=HN.out
    omega
   obtain⟨g1,o1,rfl,hg1,hc1⟩:=hL1.resolve_left hne;obtain⟨g2,o2,rfl,hg2,hc2⟩:=hL2.resolve_left hne;have hq1:∀j u,(vals x)[j]? =some u->wr.cell? ⟨g1,o1+(k*7+j),none⟩=some u:=λj u hu=>cells_at HOK.out (.inr ⟨g1,o1,rfl,hg1,hc1⟩) hx j u hu
   have hq2:∀j u,(vals x)[j]? =some u->wr.cell? ⟨g2,o2+(k*7+j),none⟩=some u:=λj u hu=>cells_at HOK.out (.inr ⟨g2,o2,rfl,hg2,hc2⟩) hx j u hu
   obtain⟨a,b,c,d,e,f,g,rfl⟩:=ok_seven hxo;have p10:=hq1 0 _ rfl;have p11:=hq1 1 _ rfl;have p12:=hq1 2 _ rfl;have p13:=hq1 3 _ rfl;have p14:=hq1 4 _ rfl;have p15:=hq1 5 _ rfl;have p16:=hq1 6 _ rfl;have p20:=hq2 0 _ rfl;have p21:=hq2 1 _ rfl;have p22:=hq2 2 _ rfl;have p23:=hq2 3 _ rfl;have p24:=hq2 4 _ rfl;have p25:=hq2 5 _ rfl;have p26:=hq2 6 _ rfl;simp only[Nat.add_zero,<-Nat.add_assoc]at p10 p11 p12 p13 p14 p15 p16 p20 p21 p22 p23 p24 p25 p26;clear hq1 hq2 hc1 hc2 hL1 hL2 hne hx hxe hxo
   go_wp2_with fail
   go_quiet (fail)
   go_wp2_with fail
   go_roundw
   case rel=>exact⟨k+1,by omega,by go_num,jq ⟨hB.out.os,hB.out.tape,hB.out.output,hB.out.size,hB.out.block⟩⟩
   case measure=>simp[intOf];omega
  ·obtain rfl:k=n:=by omega
   go_wp2_with fail
   go_ret
   exact⟨rfl,hB.out⟩
theorem stoX_names {B s d cnt n:Nat} {o:Option Obj} {H F:Files} {w:World} {Q:Nat->Prop} (h: (stoX B s d cnt o H).At w Q false F n):
  Calls Tryz.prog 20 #[.pointer (some ⟨s,0,none⟩)] w λe w'=>∃(v:Value) (ss:List (List UInt8)),e=.returned v/\w'.ownsRow w.heap.size 9 1 v ss.length (ss.map encStr)/\(∀nm,nm∈ss↔F nm≠none)/\ss.Pairwise (·< ·)/\ss.length<=200000/\Below w.heap.size w w':=by
 obtain⟨g,cm,m,ver,next,fs,C,j,Q0,ho,-,-,-,hF,hj,hq⟩:=h.on;have hfew:=h.few;refine(on_names ho (by omega)).mono ?_;rintro e w' ⟨v,ss,rfl,h1,h2,h3,h4,h5⟩;exact⟨v,ss,rfl,h1,λnm=>by rw[hF];exact h2 nm,h3,by omega,h5⟩
end Pool
namespace RefD
open Go.RowKit Go.Deep Mem Crc Full Spoil Mani
theorem step_int (x:Nat) (h:x<2^32): (x%2=1->bits .xor .u32 ((x:Int)/2) 3988292384=(tabStep x:Int))/\(x%2=0->(x:Int)/2=(tabStep x:Int)):=by
 constructor
 ·intro h1;unfold tabStep;rw[h1,Nat.mul_one,show(x:Int)/2=((x/2:Nat):Int)by omega];exact u32_xor_nat (x/2) 3988292384 (by omega) (by decide)
 ·intro h1;unfold tabStep;rw[h1,Nat.mul_zero,Nat.xor_zero]
  omega
theorem sum02_any (a:Option Addr) (cp:Nat) (bs:List UInt8) (w:World) (h:Lies w a (bs.map bv)) (hn:bs.length<=4000000):
  Calls Tryz.prog 132 #[.slice a bs.length cp] w λe w'=>e=.returned (.int .u32 (sumF bs:Int))/\w'=w:=by
 obtain⟨n,hnn⟩:=jl bs.length;rw[<-hnn]at hn⊢;have H:=jq h;have HN:=jq hnn;clear h hnn
 go_enter Tryz.func132,Tryz.ntmps132
 go_wp2_with fail
 go_loopw[3,8] (λx i wr=>∃k:Nat,k<=n/\i=.int .i64 (k:Int)/\wr=w/\x=.int .u32 ((crcRun 4294967295 (bs.take k):Nat):Int)) (λ_ i _=>n-(intOf i).toNat)
 case atStart=>exact⟨0,Nat.zero_le _,rfl,rfl,rfl⟩
 case round=>
  obtain⟨k,hk,rfl,rfl,hx⟩:=hrel;obtain⟨y0,hy0⟩:=jl (crcRun 4294967295 (bs.take k));have hy32:y0<2^32:=by rw[hy0];exact run_lt _ (by decide)
  rw[<-hy0]at hx;subst hx;have HY:=jq hy0;clear hy0
  by_cases hkn:k<n
  ·have hkd:decide ((k:Int) <(n:Int))=true:=jd (by omega);obtain⟨c,hc⟩:∃c,bs[k]? =some c:=⟨bs[k]'(by rw[<-HN.out];exact hkn),jg _⟩;obtain⟨g,o,rfl,c0⟩:=lies_at H.out (k:=k) (u:=bv c) (by rw[List.getElem?_map,hc];rfl)
   have hsuc:crcRun 4294967295 (bs.take (k+1))=steps 8 (y0 ^^^ c.toNat):=by
    rw[List.take_add_one,hc];unfold crcRun;rw[List.foldl_append,HY.out];exact crcStep_eq _ c
   have HSUC:=jq hsuc;obtain⟨cn,hcn⟩:=jl c.toNat;have hc256:cn<256:=by rw[hcn];exact c.toNat_lt
   have hbv:bv c=.int .u8 (cn:Int):=by rw[hcn];rfl
   rw[hbv]at c0;rw[<-hcn]at HSUC;have hxor:bits .xor .u32 (y0:Int) (cn:Int)=((y0 ^^^ cn:Nat):Int):=u32_xor_nat _ _ hy32 (by omega);obtain⟨y,hy⟩:=jl (y0 ^^^ cn);have hylt:y<2^32:=by rw[hy];exact Nat.xor_lt_two_pow hy32 (by omega)
   rw[<-hy]at hxor HSUC;have hcw:IntKind.u32.wrap (cn:Int)=(cn:Int):=by show(cn:Int)%4294967296=_;omega
   have HYL:=jq hylt;clear hc hsuc hcn hbv hy hylt
   go_wp2_with fail
   go_loopw[3,5] (λx i wq=>∃j:Nat,j<=8/\i=.int .i64 (j:Int)/\wq=wr/\x=.int .u32 ((steps j y:Nat):Int)) (λ_ i _=>8-(intOf i).toNat)
   case atStart=>exact⟨0,Nat.zero_le _,rfl,rfl,rfl⟩
   case round=>
    obtain⟨j,hj,rfl,rfl,hx⟩:=hrel;obtain⟨z,hz⟩:=jl (steps j y);have hzlt:z<2^32:=by rw[hz];exact steps_lt HYL.out j
    have hsz:steps (j+1) y=tabStep z:=by rw[hz];rfl
    obtain⟨hs1,hs0⟩:=step_int z hzlt;rw[<-hz]at hx;subst hx
    by_cases hj8:j<8
    ·have hjd:decide ((j:Int) <8)=true:=jd (by omega);have HSZ:=jq hsz;rcases Nat.mod_two_eq_zero_or_one z with hm|hm
     ·have h0:=hs0 hm;have hq: ((z:Int)%2==1)=false:=by rw[beq_eq_false_iff_ne];omega
      clear hs1 hs0 hsz hz
      go_wp2_with fail
      exact⟨⟨j+1,hj8,rfl,by first|rfl|trivial,by rw[HSZ.out]⟩,by simp[intOf];clear HSZ HSUC HY H HN;omega⟩
     ·have h1:=hs1 hm;have hq: ((z:Int)%2==1)=true:=by rw[beq_iff_eq];omega
      clear hs1 hs0 hsz hz
      go_wp2_with fail
      exact⟨⟨j+1,hj8,rfl,by first|rfl|trivial,by rw[HSZ.out]⟩,by simp[intOf];clear HSZ HSUC HY H HN;omega⟩
    ·have hj9:j=8:=by omega
     subst hj9;have hjd:decide (((8:Nat):Int) <8)=false:=by decide
     have HZ:=jq hz;clear hs1 hs0 hsz hz
     go_wp2_with fail
     exact⟨⟨k+1,hkn,rfl,by first|rfl|trivial,by rw[HSUC.out,HZ.out]⟩,by simp[intOf];exact Nat.sub_lt_sub_left hkn (Nat.lt_succ_self k)⟩
  ·obtain rfl:n=k:=by omega
   have hkd:decide ((n:Int) <(n:Int))=false:=jf (by omega)
   have hx1:bits .xor .u32 (y0:Int) 4294967295=((4294967295-y0:Nat):Int):=by
    have e1:=u32_xor_nat y0 4294967295 hy32 (by decide);have e2:=u32_xor_nat 4294967295 y0 (by decide) hy32;have e3:=not_u32 y0 hy32;rw[show(IntKind.u32.max:Int)=((4294967295:Nat):Int)from rfl,e2]at e3;rw[Nat.xor_comm]at e1;exact e1.trans e3
   go_wp2_with fail
   go_ret
   rw[HY.out,HN.out,List.take_length];exact⟨rfl,rfl⟩
end RefD
namespace RefD
open Go.RowKit Go.Deep Mem Crc Full Mani
theorem four02_any (n:Nat) (h:n<2^32) (w:World):Calls Tryz.prog 104 #[.int .u32 (n:Int)] w λe w'=>∃v,e=.returned v/\OwnB w' w.heap.size v (four n)/\Below w.heap.size w w':=by
 go_enter Tryz.func104,Tryz.ntmps104
 go_wp2_with fail
 go_ret
 refine⟨_,rfl,?_,(Below.refl _ w).alloc jn _⟩
 have e:#[Value.int .u8 ((n:Int)%256),Value.int .u8 ((n:Int)/256%256),Value.int .u8 ((n:Int)/65536%256),Value.int .u8 ((n:Int)/16777216)]=((four n).map bv).toArray:=by
  unfold four bv;simp only[List.map_cons,List.map_nil,UInt8.toNat_ofNat'];have e1: ((n%2^8:Nat):Int)=(n:Int)%256:=by omega
  have e2: ((n/256%2^8:Nat):Int)=(n:Int)/256%256:=by omega
  have e3: ((n/65536%2^8:Nat):Int)=(n:Int)/65536%256:=by omega
  have e4: ((n/16777216%2^8:Nat):Int)=(n:Int)/16777216:=by omega
  rw[e1,e2,e3,e4]
 rw[e];have h:=World.ownsRow_lit (e:=5) (size:=1) (base:=w.heap.size) w ((four n).map bv).toArray 4 jn (by decide) (by simp[four]);unfold OwnB;rw[show(four n).length=4 from rfl];exact h
attribute [local go_sem] Oper.semAt_some
theorem mark02_any (a:Option Addr) (cp:Nat) (bs:List UInt8) (w:World) (h:Lies w a (bs.map bv)) (hn:bs.length<=3000000):
  Calls Tryz.prog 105 #[.slice a bs.length cp] w λe w'=>∃v,e=.returned v/\OwnB w' w.heap.size v (marked bs)/\Below w.heap.size w w':=by
 obtain⟨W1,hW1⟩:=jl (w.alloc (.cells #[] 5));obtain⟨ob,hob⟩:=jl w.heap.size;have hB1:Below w.heap.size w W1:=by rw[hW1];exact(Below.refl _ w).alloc jn _
 have ho1:OwnB W1 w.heap.size (.slice (some ⟨ob,0,none⟩) 0 0) []:=by rw[hW1,hob];exact own_empty w 5 1
 obtain⟨v2,w2,hr2,hO2,hg2⟩:=run_append_bytes W1 27 _ _ ho1 a cp bs (h.later hB1) (by simp;omega) hB1.size;rw[List.nil_append]at hO2;have hB2:Below w.heap.size w w2:=hB1.grown hg2 hB1.size (λq hq=>(ho1.lt q hq).1);obtain⟨v2a,v2c,rfl,-⟩:=own_shape hO2;have hS:=sum02_any a cp bs w2 (h.later hB2) (by omega);have hsl:sumF bs<2^32:=by unfold sumF;omega
 have hF:=four02_any (sumF bs) hsl w2;obtain⟨n,hnn⟩:=jl bs.length;obtain⟨sm,hsm⟩:=jl (sumF bs);rw[<-hnn]at hr2 hS hn⊢;rw[<-hsm]at hS hF;have HN:=jq hnn;have HSM:=jq hsm;have HS:=jq hS;have HF:=jq hF;have HO2:=jq hO2;have HB2:=jq hB2;rw[hW1]at hr2;clear h hnn hsm hS hF hO2 hB2 ho1 hB1 hg2 hW1 hsl;rw[hob]at hr2
 go_enter Tryz.func105,Tryz.ntmps105
 go_wp2_with (first|(at_builtin;refine Lib.wpList_append_run _ rfl _ _ _ _ rfl _ _ rfl rfl _ _ hr2 ?_))
 refine HS.out.mono ?_;rintro e w3 ⟨rfl,rfl⟩
 go_wp2_with fail
 refine HF.out.mono ?_;rintro e w4 ⟨v4,rfl,hO4,hB4⟩;obtain⟨v4a,v4c,rfl,_,hL4,-⟩:=own_shape hO4;have hO3:=own_later HO2.out hB4;have hB04:Below w.heap.size w w4:=HB2.out.trans (hB4.mono HB2.out.size);obtain⟨v5,w5,hr5,hO5,hg5⟩:=run_append_bytes w4 27 _ _ hO3 v4a v4c (four sm) hL4 (by rw[<-HN.out];simp[four];omega) hB04.size;have hB5:Below w.heap.size w w5:=hB04.grown hg5 hB04.size (λq hq=>(hO3.lt q hq).1);rw[HSM.out]at hO5;rw[<-HN.out]at hr5;have HO5:=jq hO5;have HB5:=jq hB5;obtain⟨l4,hl4⟩:=jl ((four sm).length);rw[<-hl4]at hr5⊢;clear hO4 hB4 hL4 hO3 hB04 hg5 hO5 hB5 hl4
 go_wp2_with (first|(at_builtin;refine Lib.wpList_append_run _ rfl _ _ _ _ rfl _ _ rfl rfl _ _ hr5 ?_))
 go_ret
 exact⟨_,rfl,HO5.out,HB5.out⟩
end RefD
end Go.Proofs.YtfgjnpbffppocaaGreatDoor
