/- A part of the proof. -/
import Derived.Test.YtbfochdoeibofaaGreatDoorG0
import Derived.Test.YtbfochdoeibofaaGreatDoorG0Q
import Derived.Test.YtbfochdoeibofaaGreatDoorG4
import Derived.Test.YtbfochdoeibofaaGreatDoorG16
import Derived.Test.YtbfochdoeibofaaGreatDoorG25
import Derived.Test.YtbfochdoeibofaaGreatDoorG29
import Derived.Test.YtbfochdoeibofaaGreatDoorG30
import Derived.Laws.IdiomCopy
set_option maxHeartbeats 2000000
set_option maxRecDepth 100000
namespace Go.Proofs.YtbfochdoeibofaaGreatDoor
namespace Full
open Go.RowKit Dk Mani Go.Proofs.YtbfochdoeibofaaGreatDoor.Read Man
open Store (Chg none' nv Files)
open Ext (takeL takeK freeN)
def halfB (a b:List UInt8):List UInt8:=b.take 64++a.drop 64
def backs (keep torn:Nat):Nat->List (List UInt8)->List (Nat×List UInt8)->List (List UInt8)
 |_,bl,[]=>bl
 |i,bl,x ::r=>backs keep torn (i+1) (if keep.testBit (i%64)then bl.set x.1 x.2 else if torn.testBit (i%64)then bl.set x.1 (halfB (bl.getD x.1 []) x.2)else bl) r
def backD (m:DM) (keep torn:Nat):DM:=⟨backs keep torn 0 m.bl m.wt,[],false,-1⟩
theorem backs_length (keep torn:Nat):∀(ws:List (Nat×List UInt8)) (i:Nat) (bl:List (List UInt8)),(backs keep torn i bl ws).length=bl.length
 | [],_,_=>rfl
 |x ::r,i,bl=>by
  unfold backs;rw[backs_length keep torn r]
  split
  ·rw[List.length_set]
  ·split
   ·rw[List.length_set]
   ·rfl
theorem backs_other (keep torn:Nat):∀(ws:List (Nat×List UInt8)) (i:Nat) (bl:List (List UInt8)) (j:Nat),j∉ws.map Prod.fst->(backs keep torn i bl ws)[j]? =bl[j]?
 | [],_,_,_,_=>rfl
 |x ::r,i,bl,j,h=>by
  rw[List.map_cons,List.mem_cons]at h;unfold backs;rw[backs_other keep torn r _ _ j (λhm=>h (.inr hm))];have hne:x.1≠j:=λe=>h (.inl e.symm)
  split
  ·rw[List.getElem?_set_ne hne]
  ·split
   ·rw[List.getElem?_set_ne hne]
   ·rfl
theorem halfB_length {a b:List UInt8} (ha:a.length=128) (hb:b.length=128): (halfB a b).length=128:=by
 unfold halfB;rw[jL,jT,List.length_drop]
 omega
structure Fell (m':DM) (bl:List (List UInt8)) (ws:List (Nat×List UInt8)):Prop where
 bl:m'.bl=bl
 off:m'.off=true
 wt:∀x∈m'.wt,x∈ws
theorem deed_fell {m:DM} (h:m.fuse=0):m.deed.1.bl=m.bl/\m.deed.1.off=true/\m.deed.1.wt=m.wt:=by
 unfold DM.deed;rw[if_pos h];exact⟨rfl,rfl,rfl⟩
theorem write_fell {m:DM} {i:Nat} {b:List UInt8} (h: (m.write i b).2≠0): (m.write i b).2=6/\Fell (m.write i b).1 m.bl m.wt:=by
 unfold DM.write at h⊢
 by_cases h0:m.fuse=0
 ·rw[if_pos h0];obtain⟨h1,h2,h3⟩:=deed_fell h0;exact⟨rfl,h1,h2,λx hx=>by rwa [h3]at hx⟩
 ·rw[if_neg h0]at h;exact absurd rfl h
theorem sync_fell {m:DM} (h:m.sync.2≠0):m.sync.2=6/\Fell m.sync.1 m.bl m.wt:=by
 unfold DM.sync at h⊢
 by_cases h0:m.fuse=0
 ·rw[if_pos h0];obtain⟨h1,h2,h3⟩:=deed_fell h0;exact⟨rfl,h1,h2,λx hx=>by rwa [h3]at hx⟩
 ·rw[if_neg h0]at h;exact absurd rfl h
theorem writes_fell:∀{l:List (Nat×List UInt8)} {m:DM},(m.writes l).2≠0->(m.writes l).2=6/\Fell (m.writes l).1 m.bl (m.wt++l)
 | [],m,h=>absurd rfl h
 |x ::r,m,h=>by
  unfold DM.writes at h⊢
  by_cases h0: (m.write x.1 x.2).2=0
  ·rw[if_pos h0]at h⊢;obtain⟨a1,a2,a3⟩:=write_ok h0;obtain⟨b1,b2⟩:=writes_fell h;refine⟨b1,b2.bl.trans a1,b2.off,λy hy=>?_⟩;have:=b2.wt y hy;rw[a3]at this
   simpa using this
  ·rw[if_neg h0]at h⊢;obtain⟨b1,b2⟩:=write_fell h0;exact⟨b1,b2.bl,b2.off,λy hy=>List.mem_append.2 (.inl (b2.wt y hy))⟩
theorem slot_fell {m:DM} {at_:Nat} {b:List UInt8} (hw:m.wt= []) (h: (m.slot at_ b).2≠0): (m.slot at_ b).2=6/\Fell (m.slot at_ b).1 m.bl (slotW at_ b):=by
 unfold DM.slot at h⊢
 by_cases h0: (m.writes (slotW at_ b)).2=0
 ·rw[if_pos h0]at h⊢;obtain⟨w1,w2,w3⟩:=writes_ok h0;obtain⟨s1,s2⟩:=sync_fell h;refine⟨s1,s2.bl.trans w1,s2.off,λx hx=>?_⟩;have:=s2.wt x hx
  rwa [w3,hw,List.nil_append]at this
 ·rw[if_neg h0]at h⊢;obtain⟨s1,s2⟩:=writes_fell h;rw[hw,List.nil_append]at s2;exact⟨s1,s2⟩
theorem mani_fell {m:DM} {ver:Nat} {b:List UInt8} (hw:m.wt= []) (h: (m.mani ver b).2≠0): (m.mani ver b).2=6/\(Fell (m.mani ver b).1 m.bl (slotW (ver%2*16) b)\/Fell (m.mani ver b).1 (puts m.bl (slotW (ver%2*16) b)) (slotW ((ver+1)%2*16) b)):=by
 unfold DM.mani at h⊢
 by_cases h0: (m.slot (ver%2*16) b).2=0
 ·rw[if_pos h0]at h⊢;obtain⟨a1,a2,a3⟩:=slot_bl hw h0;obtain⟨b1,b2⟩:=slot_fell a3 h;rw[a1]at b2;exact⟨b1,.inr b2⟩
 ·rw[if_neg h0]at h⊢;obtain⟨b1,b2⟩:=slot_fell hw h;exact⟨b1,.inl b2⟩
theorem commit_fell {m:DM} {C:Chg} {fs:List Fil} {ver:Nat} {b:List UInt8} (hw:m.wt= []) (h: (commitD m C fs ver b).2≠0): (commitD m C fs ver b).2=6/\(Fell (commitD m C fs ver b).1 m.bl (chW C fs)\/Fell (commitD m C fs ver b).1 (puts m.bl (chW C fs)) (slotW (ver%2*16) b)\/Fell (commitD m C fs ver b).1 (puts (puts m.bl (chW C fs)) (slotW (ver%2*16) b)) (slotW ((ver+1)%2*16) b)):=by
 unfold commitD at h⊢
 by_cases h0: (m.writes (chW C fs)).2=0
 ·rw[if_pos h0]at h⊢;obtain⟨w1,w2,w3⟩:=writes_ok h0;rw[hw,List.nil_append]at w3
  by_cases h1: (m.writes (chW C fs)).1.sync.2=0
  ·rw[if_pos h1]at h⊢;obtain⟨s1,s2,s3⟩:=sync_ok h1;obtain⟨b1,b2⟩:=mani_fell s3 h;rw[s2,w1,w3]at b2;exact⟨b1,.inr b2⟩
  ·rw[if_neg h1]at h⊢;obtain⟨s1,s2⟩:=sync_fell h1;rw[w1,w3]at s2;exact⟨s1,.inl s2⟩
 ·rw[if_neg h0]at h⊢;obtain⟨s1,s2⟩:=writes_fell h;rw[hw,List.nil_append]at s2;exact⟨s1,.inl s2⟩
def bestO (a b:Option MT):Option MT:=
 match b with
 |none=>a
 |some p=>match a with
  |none=>some p
  |some q=>if q.1<p.1 then some p else some q
theorem readM_best (bl:List (List UInt8)): (readM bl).1=bestO (getS (slotB bl 0)) (getS (slotB bl 1))/\(readM bl).2=(!(slotB bl 0).any (·!=0)|| !(slotB bl 1).any (·!=0)):=by
 show(stepR (stepR (none,false) (slotB bl 0)) (slotB bl 1)).1=_/\(stepR (stepR (none,false) (slotB bl 0)) (slotB bl 1)).2=_
 constructor
 ·unfold stepR bestO;cases getS (slotB bl 0) <;> cases getS (slotB bl 1) <;> rfl
 ·unfold stepR
  simp
def Stand (bl:List (List UInt8)) (ver next:Nat) (fs:List Fil):Prop:=(readM bl=(none,true)/\ver=0/\next=0/\fs= [])\/(readM bl).1=some (ver,next,fs)
theorem Slots.stand {bl:List (List UInt8)} {n ver next:Nat} {fs:List Fil} (h:Slots bl ver next fs) (hok:Okm n ver next fs):Stand bl ver next fs:=readM_slots h hok
theorem stand_one {bl0 bl:List (List UInt8)} {n n' ver next nx:Nat} {fs fs':List Fil} (h:Slots bl0 ver next fs) (hok:Okm n ver next fs) (hok':Okm n' (ver+1) nx fs') {a:Nat} (ha:a<2) (h1:slotB bl (1-a)=slotB bl0 (1-a)) (h2:getS (slotB bl a)=none\/slotB bl a=slotB bl0 a\/slotB bl a=manL (ver+1) nx fs'):Stand bl ver next fs\/Stand bl (ver+1) nx fs':=by
 obtain⟨r1,r2⟩:=readM_best bl;have hN:=getS_man hok'
 have hO:getS (slotB bl0 (1-a))=getS (slotB bl0 a):=by
  rcases h with⟨_,_,_,h4⟩|h4 <;> rw[h4 _ (by omega),h4 _ ha]
 by_cases hnew:slotB bl a=manL (ver+1) nx fs'
 ·refine .inr (.inr ?_);rw[r1]
  have hold:getS (slotB bl (1-a))=none\/getS (slotB bl (1-a))=some (ver,next,fs):=by
   rw[h1];rcases h with⟨_,_,_,h4⟩|h4
   ·rw[h4 _ (by omega),getS_zero];exact .inl rfl
   ·rw[h4 _ (by omega),getS_man hok];exact .inr rfl
  have ha2:a=0\/a=1:=by omega
  rcases ha2 with rfl|rfl
  ·rw[hnew,hN];rcases hold with e|e <;> rw[show(1-0:Nat)=1 from rfl]at e <;> rw[e]
   ·rfl
   ·unfold bestO;dsimp only;rw[if_neg (by omega)]
  ·rw[hnew,hN];rcases hold with e|e <;> rw[show(1-1:Nat)=0 from rfl]at e <;> rw[e]
   ·rfl
   ·unfold bestO;dsimp only;rw[if_pos (by omega)]
 ·refine .inl ?_;rcases h with⟨e1,e2,e3,h4⟩|h4
  ·refine .inl ⟨?_,e1,e2,e3⟩;have hz:slotB bl (1-a)=Man.zb 2048:=by rw[h1,h4 _ (by omega)]
   have hn:getS (slotB bl a)=none:=by
    rcases h2 with h2|h2|h2
    ·exact h2
    ·rw[h2,h4 _ ha,getS_zero]
    ·exact absurd h2 hnew
   have ha2:a=0\/a=1:=by omega
   refine Prod.ext ?_ ?_
   ·rw[r1];rcases ha2 with rfl|rfl
    ·rw[hn,show(1:Nat)=1-0 from rfl,hz,getS_zero];rfl
    ·rw[hn,show(0:Nat)=1-1 from rfl,hz,getS_zero];rfl
   ·rw[r2];rcases ha2 with rfl|rfl
    ·rw[show(1:Nat)=1-0 from rfl,hz,zb_any];simp
    ·rw[show(0:Nat)=1-1 from rfl,hz,zb_any];simp
  ·refine .inr ?_;have hz:getS (slotB bl (1-a))=some (ver,next,fs):=by rw[h1,h4 _ (by omega),getS_man hok]
   have hn:getS (slotB bl a)=none\/getS (slotB bl a)=some (ver,next,fs):=by
    rcases h2 with h2|h2|h2
    ·exact .inl h2
    ·rw[h2,h4 _ ha,getS_man hok];exact .inr rfl
    ·exact absurd h2 hnew
   rw[r1];have ha2:a=0\/a=1:=by omega
   rcases ha2 with rfl|rfl
   ·rw[show(1-0:Nat)=1 from rfl]at hz;rcases hn with e|e <;> rw[e,hz] <;> unfold bestO <;> dsimp only
    rw[if_neg (by omega)]
   ·rw[show(1-1:Nat)=0 from rfl]at hz;rcases hn with e|e <;> rw[e,hz] <;> unfold bestO <;> dsimp only
    rw[if_neg (by omega)]
theorem stand_new {bl0 bl:List (List UInt8)} {n n' ver next nx:Nat} {fs fs':List Fil} (h:Slots bl0 ver next fs) (hok:Okm n ver next fs) (hok':Okm n' (ver+1) nx fs') {a:Nat} (ha:a<2) (h1:slotB bl (1-a)=manL (ver+1) nx fs') (h2:getS (slotB bl a)=none\/slotB bl a=slotB bl0 a\/slotB bl a=manL (ver+1) nx fs'):Stand bl (ver+1) nx fs':=by
 refine .inr ?_;rw[(readM_best bl).1];have hN:getS (slotB bl (1-a))=some (ver+1,nx,fs'):=by rw[h1,getS_man hok']
 have ho:getS (slotB bl a)=none\/getS (slotB bl a)=some (ver,next,fs)\/getS (slotB bl a)=some (ver+1,nx,fs'):=by
  rcases h2 with h2|h2|h2
  ·exact .inl h2
  ·rw[h2];rcases h with⟨_,_,_,h4⟩|h4
   ·rw[h4 _ ha,getS_zero];exact .inl rfl
   ·rw[h4 _ ha,getS_man hok];exact .inr (.inl rfl)
  ·rw[h2,getS_man hok'];exact .inr (.inr rfl)
 have ha2:a=0\/a=1:=by omega
 rcases ha2 with rfl|rfl
 ·rw[show(1-0:Nat)=1 from rfl]at hN;rcases ho with e|e|e <;> rw[e,hN] <;> unfold bestO <;> dsimp only
  ·rw[if_pos (by omega)]
  ·rw[if_neg (by omega)]
 ·rw[show(1-1:Nat)=0 from rfl]at hN;rcases ho with e|e|e <;> rw[e,hN] <;> unfold bestO <;> dsimp only
  ·rw[if_neg (by omega)]
  ·rw[if_neg (by omega)]
theorem step_free {C:Chg} {n:Nat} {T:Nat->Bool} {nm:List UInt8} {p p':PL} (hk:∃q,p.k=mapK n q/\∀i,T i=true->q i=true) (h:∀f∈p.fs,C f.name=none\/∀i∈f.blocks,T i=false) (hp:stepF C nm p=some p'): (∃q,p'.k=mapK n q/\∀i,T i=true->q i=true)/\∀f∈p'.fs,C f.name=none\/∀i∈f.blocks,T i=false:=by
 unfold stepF at hp
 cases hC:C nm with
 |none=>
  rw[hC]at hp;have hp:=Option.some.inj hp;subst hp;exact⟨hk,h⟩
 |some c=>
  rw[hC]at hp
  cases c with
  |none=>
   have hp:=Option.some.inj hp;subst hp;exact⟨hk,h⟩
  |some b=>
   dsimp only at hp
   by_cases hf:freeN p.k<Mani.many b.length
   ·rw[if_pos hf]at hp;cases hp
   ·rw[if_neg hf]at hp;have hp:=Option.some.inj hp;subst hp;obtain⟨q,hq,hT⟩:=hk
    have hN:Mani.many b.length<=((List.range n).filter (λi=> !q i)).length:=by
     rw[<-freeN_mapK,<-hq]
     omega
    refine⟨?_,λf hf2=>?_⟩
    ·refine⟨λj=>q j||decide (j∈((List.range n).filter (λi=> !q i)).take (Mani.many b.length)),?_,λi hi=>?_⟩
     ·show takeK p.k _=_;rw[hq];exact takeK_mapK n q hN
     ·show(q i||_)=true;rw[hT i hi,Bool.true_or]
    ·rcases mem_ins.1 hf2 with rfl|hf2
     ·refine .inr (λi hi=>?_);unfold newF at hi;dsimp only at hi;rw[hq,takeL_mapK n q hN]at hi;have h1:=(List.mem_filter.1 (List.mem_of_mem_take hi)).2
      cases hTi:T i with
      |false=>rfl
      |true=>rw[hT i hTi]at h1;cases h1
     ·exact h f hf2
theorem plan_free {C:Chg} {n:Nat} {T:Nat->Bool}:∀(ss:List (List UInt8)) {p p':PL},(∃q,p.k=mapK n q/\∀i,T i=true->q i=true)->(∀f∈p.fs,C f.name=none\/∀i∈f.blocks,T i=false)->planF C ss p=some p'->∀f∈p'.fs,C f.name=none\/∀i∈f.blocks,T i=false
 | [],p,p',_,h,hp=>by
  have hp:some p=some p':=hp;cases hp;exact h
 |nm ::r,p,p',hl,h,hp=>by
  unfold planF at hp;rw[List.foldl_cons]at hp
  cases hs:stepF C nm p with
  |none=>
   rw[show(some p:Option PL).bind (stepF C nm)=none from hs,foldl_none]at hp;cases hp
  |some q=>
   rw[show(some p:Option PL).bind (stepF C nm)=some q from hs]at hp;obtain⟨h1,h2⟩:=step_free hl h hs;exact plan_free r h1 h2 hp
theorem chW_free {C:Chg} {ss:List (List UInt8)} {n ver next nx:Nat} {fs fs':List Fil} (hok:Okm n ver next fs) (hn:32<=n) (hp:planM C ss n ver next fs=some (nx,fs')) {i:Nat} (hi:i∈(chW C fs').map Prod.fst):32<=i/\i∉bksL fs:=by
 unfold planM at hp
 by_cases hv:ver=18446744073709551615
 ·rw[if_pos hv]at hp;cases hp
 rw[if_neg hv]at hp;cases hF:planF C ss (startF C n next fs)with
 |none=>rw[hF]at hp;cases hp
 |some p=>
  rw[hF]at hp;dsimp only at hp
  by_cases hm:mayB (ver+1) p.next p.fs=true
  ·rw[if_pos hm]at hp;have hp:=Option.some.inj hp;have e2:p.fs=fs':=congrArg Prod.snd hp;subst e2;have h0:=plan_free (C:=C) (n:=n) (T:=tkn fs) ss (p:=startF C n next fs) ⟨_,freeK_mapK hok hn,λi h=>h⟩ (λf hf=>.inl (Option.isNone_iff_eq_none.1 (List.mem_filter.1 hf).2)) hF;obtain⟨x,hx,rfl⟩:=List.mem_map.1 hi;obtain⟨f,hf,hxf⟩:=List.mem_flatMap.1 hx;have him:x.1∈f.blocks:=(fileW_keys C f).subset (List.mem_map.2 ⟨x,hxf,rfl⟩)
   have hC:C f.name≠none:=λhc=>by
    unfold fileW at hxf;rw[hc]at hxf;cases hxf
   have h1:=(h0 f hf).resolve_left hC x.1 him;unfold tkn at h1;rw[Bool.or_eq_false_iff,decide_eq_false_iff_not,decide_eq_false_iff_not]at h1;exact⟨by omega,h1.2⟩
  ·rw[if_neg hm]at hp;cases hp
theorem slotB_backs {keep torn:Nat} {bl:List (List UInt8)} {ws:List (Nat×List UInt8)} {j:Nat} (h:∀x∈ws,x.1<16*j\/16*j+16<=x.1):slotB (backs keep torn 0 bl ws) j=slotB bl j:=by
 unfold Man.slotB Man.slotJ
 congr 1
 refine List.ext_getElem? (λi=>?_);rw[List.getElem?_take,List.getElem?_take]
 by_cases hi:i<16
 ·rw[if_pos hi,if_pos hi,List.getElem?_drop,List.getElem?_drop,backs_other];intro hm;obtain⟨x,hx,e⟩:=List.mem_map.1 hm;have:=h x hx
  omega
 ·rw[if_neg hi,if_neg hi]
theorem slotB_puts {bl:List (List UInt8)} {ws:List (Nat×List UInt8)} {j:Nat} (h:∀x∈ws,x.1<16*j\/16*j+16<=x.1):slotB (puts bl ws) j=slotB bl j:=by
 unfold Man.slotB Man.slotJ
 congr 1
 refine List.ext_getElem? (λi=>?_);rw[List.getElem?_take,List.getElem?_take]
 by_cases hi:i<16
 ·rw[if_pos hi,if_pos hi,List.getElem?_drop,List.getElem?_drop,puts_other];intro hm;obtain⟨x,hx,e⟩:=List.mem_map.1 hm;have:=h x hx
  omega
 ·rw[if_neg hi,if_neg hi]
theorem slotB_put {bl:List (List UInt8)} {b:List UInt8} {j:Nat} (hb:b.length=2048) (h:j*16+16<=bl.length):slotB (puts bl (slotW (j*16) b)) j=b:=
 slotB_of hb (λk hk=>puts_at _ _ _ _ (slotW_nodup _ _) (slotW_mem _ _ hk) (by omega))
theorem slotW_in {at_:Nat} {b:List UInt8} {x:Nat×List UInt8} (h:x∈slotW at_ b):at_<=x.1/\x.1<at_+16:=slotW_keys (List.mem_map.2 ⟨x,h,rfl⟩)
theorem OnDisk.same {bl bl':List (List UInt8)} {fs:List Fil} {H:Files} (h:OnDisk bl fs H) (hf:∀i∈bksL fs,bl'[i]? =bl[i]?):OnDisk bl' fs H:=⟨λf hff=>by
 obtain⟨b,h1,h2⟩:=h.there f hff;exact⟨b,h1,h2.far (λi hi=>hf i (List.mem_flatMap.2 ⟨f,hff,hi⟩))⟩,h.none_⟩
theorem commit_on_bl {m:DM} {C:Chg} {ss:List (List UInt8)} {n ver next nx:Nat} {fs fs':List Fil} {H:Files} (hn:n=m.bl.length) (hn2:n<=65536) (h:OnDisk m.bl fs H) (hok:Okm n ver next fs) (hC:∀nm b,C nm=some (some b)->b.length<=1048576) (hK:Keys C ss) (hs:∀nm∈ss,nm.length<=32) (hp:planM C ss n ver next fs=some (nx,fs')):OnDisk (puts m.bl (chW C fs')) fs' (nowF C H):=by
 have hz:=(commit_free (m:=⟨m.bl,[],m.off,-1⟩) (by show(-1:Int) <0;decide) C fs' (ver+1) (manL (ver+1) nx fs')).1;have h1:=commit_on (m:=⟨m.bl,[],m.off,-1⟩) hn hn2 h hok hC hK hs hp rfl _ hz;have hok':=(plan_okm hok hn2 hC hK hs hp).1;refine h1.same (λi hi=>?_);obtain⟨f,hf,hif⟩:=List.mem_flatMap.1 hi;exact(commit_at (m:=⟨m.bl,[],m.off,-1⟩) rfl hz ((hok'.ok.each f hf).blocks i hif).1).symm
theorem fall_stands {m:DM} {C:Chg} {ss:List (List UInt8)} {ver next nx:Nat} {fs fs':List Fil} {H:Files} (h33:33<=m.bl.length) (hn2:m.bl.length<=65536) (h:OnDisk m.bl fs H) (hs0:Slots m.bl ver next fs) (hok:Okm m.bl.length ver next fs) (hC:∀nm b,C nm=some (some b)->b.length<=1048576) (hK:Keys C ss) (hs:∀nm∈ss,nm.length<=32) (hp:planM C ss m.bl.length ver next fs=some (nx,fs')) (hw:m.wt= []) (hz: (commitD m C fs' (ver+1) (manL (ver+1) nx fs')).2≠0) (keep torn:Nat)
  (hmix:∀j,j<2->getS (slotB (backD (commitD m C fs' (ver+1) (manL (ver+1) nx fs')).1 keep torn).bl j)=none\/slotB (backD (commitD m C fs' (ver+1) (manL (ver+1) nx fs')).1 keep torn).bl j=slotB m.bl j\/slotB (backD (commitD m C fs' (ver+1) (manL (ver+1) nx fs')).1 keep torn).bl j=manL (ver+1) nx fs'):
  (Stand (backD (commitD m C fs' (ver+1) (manL (ver+1) nx fs')).1 keep torn).bl ver next fs/\OnDisk (backD (commitD m C fs' (ver+1) (manL (ver+1) nx fs')).1 keep torn).bl fs H)\/(Stand (backD (commitD m C fs' (ver+1) (manL (ver+1) nx fs')).1 keep torn).bl (ver+1) nx fs'/\OnDisk (backD (commitD m C fs' (ver+1) (manL (ver+1) nx fs')).1 keep torn).bl fs' (nowF C H)):=by
 obtain⟨-,hfell⟩:=commit_fell hw hz;generalize (commitD m C fs' (ver+1) (manL (ver+1) nx fs')).1=m' at hfell hmix⊢;have hok':=(plan_okm hok hn2 hC hK hs hp).1;have hlen:=manL_length hok'.may;have hch:∀x∈chW C fs',32<=x.1/\x.1∉bksL fs:=λx hx=>chW_free hok (by omega) hp (List.mem_map.2 ⟨x,hx,rfl⟩)
 have hold:∀i∈bksL fs,32<=i:=λi hi=>by
  obtain⟨f,hf,hif⟩:=List.mem_flatMap.1 hi;exact((hok.ok.each f hf).blocks i hif).1
 have hnew:∀i∈bksL fs',32<=i:=λi hi=>by
  obtain⟨f,hf,hif⟩:=List.mem_flatMap.1 hi;exact((hok'.ok.each f hf).blocks i hif).1
 have hpo:=commit_on_bl rfl hn2 h hok hC hK hs hp
 have hpo0:OnDisk (puts m.bl (chW C fs')) fs H:=h.same (λi hi=>puts_other _ _ _ (λhm=>by
  obtain⟨x,hx,e⟩:=List.mem_map.1 hm;exact(hch x hx).2 (by rw[e];exact hi)))
 have hfar:∀(bl:List (List UInt8)) (ws:List (Nat×List UInt8)) (i:Nat),(∀x∈ws,x.1<32)->32<=i->(backs keep torn 0 bl ws)[i]? =bl[i]?:=λbl ws i hws hi=>backs_other _ _ _ _ _ _ (λhm=>by
  obtain⟨x,hx,e⟩:=List.mem_map.1 hm;have:=hws x hx
  omega)
 have hm2:=Nat.mod_lt (ver+1) (show 0<2 by decide);have e12: (ver+1+1)%2=1-(ver+1)%2:=by omega
 unfold backD at hmix⊢;dsimp only at hmix⊢;rcases hfell with hf|hf|hf
 ·have hwt:=hf.wt;rw[hf.bl]at hmix⊢;refine .inl ⟨?_,h.same (λi hi=>backs_other _ _ _ _ _ _ (λhm=>?_))⟩
  ·refine Slots.stand (n:=m.bl.length) ?_ hok;have hsl:∀j,j<2->slotB (backs keep torn 0 m.bl m'.wt) j=slotB m.bl j:=λj hj=>slotB_backs (λx hx=>by have:=(hch x (hwt x hx)).1;omega)
   rcases hs0 with⟨a1,a2,a3,a4⟩|a4
   ·exact .inl ⟨a1,a2,a3,λj hj=>(hsl j hj).trans (a4 j hj)⟩
   ·exact .inr (λj hj=>(hsl j hj).trans (a4 j hj))
  ·obtain⟨x,hx,e⟩:=List.mem_map.1 hm;exact(hch x (hwt x hx)).2 (by rw[e];exact hi)
 ·have hwt:=hf.wt;rw[hf.bl]at hmix⊢;have hw32:∀x∈m'.wt,x.1<32:=λx hx=>by have:=slotW_in (hwt x hx);omega
  have h1:slotB (backs keep torn 0 (puts m.bl (chW C fs')) m'.wt) (1-(ver+1)%2)=slotB m.bl (1-(ver+1)%2):=by
   rw[slotB_backs (λx hx=>by have:=slotW_in (hwt x hx);omega),slotB_puts (λx hx=>by have:=(hch x hx).1;omega)]
  rcases stand_one hs0 hok hok' hm2 h1 (hmix _ hm2)with hS|hS
  ·exact .inl ⟨hS,hpo0.same (λi hi=>hfar _ _ _ hw32 (hold i hi))⟩
  ·exact .inr ⟨hS,hpo.same (λi hi=>hfar _ _ _ hw32 (hnew i hi))⟩
 ·have hwt:=hf.wt;rw[hf.bl]at hmix⊢;rw[e12]at hwt;have hw32:∀x∈m'.wt,x.1<32:=λx hx=>by have:=slotW_in (hwt x hx);omega
  have h1:slotB (backs keep torn 0 (puts (puts m.bl (chW C fs')) (slotW ((ver+1)%2*16) (manL (ver+1) nx fs'))) m'.wt) (1-(1-(ver+1)%2))=manL (ver+1) nx fs':=by
   rw[show 1-(1-(ver+1)%2)=(ver+1)%2 by omega,slotB_backs (λx hx=>by have:=slotW_in (hwt x hx);omega)];exact slotB_put hlen (by rw[puts_length];omega)
  refine .inr ⟨stand_new hs0 hok hok' (by omega) h1 (hmix _ (by omega)),hpo.same (λi hi=>?_)⟩;rw[hfar _ _ _ hw32 (hnew i hi),puts_other];intro hm;have:=slotW_keys hm;have:=hnew i hi
  omega
theorem openL_stand {m:DM} {ver next:Nat} {fs:List Fil} (h:Stand m.bl ver next fs) (hok:Okm m.bl.length ver next fs) (hf:m.fuse<0) (hw:m.wt= []) (h33:33<=m.bl.length):∃m',openL m=(0,m',(ver,next,fs))/\SlotW m m'/\Stand m'.bl ver next fs:=by
 have hrf:SlotW m m:=⟨rfl,hw,rfl,rfl,λ_ _=>rfl⟩;rcases h with⟨h1,rfl,rfl,rfl⟩|h1
 ·refine⟨m,?_,hrf,.inl ⟨h1,rfl,rfl,rfl⟩⟩;unfold openL;rw[h1]
  rfl
 ·have hin: (fs.any (λf=>f.blocks.any (λi=>decide (m.bl.length<=i))))=false:=by
   refine Bool.eq_false_iff.2 (λhh=>?_);obtain⟨f,hff,h2⟩:=List.any_eq_true.1 hh;obtain⟨i,hi,h3⟩:=List.any_eq_true.1 h2;have h4:=of_decide_eq_true h3;have h5:=hok.in_ f hff i hi
   omega
  by_cases hv:ver=0
  ·refine⟨m,?_,hrf,.inr h1⟩;unfold openL;rw[h1];dsimp only;rw[hin,if_neg Bool.false_ne_true,if_pos hv]
  ·obtain⟨f1,f2⟩:=mani_free hf ver (manL ver next fs);obtain⟨b1,b2,b3⟩:=mani_bl hw f1;refine⟨(m.mani ver (manL ver next fs)).1,?_,⟨b2,b3,f2,by rw[b1,puts_length,puts_length],λi hi=>?_⟩,Slots.stand (n:=m.bl.length) (.inr (λj hj=>?_)) hok⟩
   ·unfold openL;rw[h1];dsimp only;rw[hin,if_neg Bool.false_ne_true,if_neg hv,f1]
   ·have h2:=Nat.mod_lt ver (show 0<2 by decide);rw[b1,puts_other _ _ _ (λhm=>by have:=slotW_keys hm;omega),puts_other _ _ _ (λhm=>by have:=slotW_keys hm;omega)]
   ·rw[b1];exact slots_at ver (manL_length hok.may) h33 hj
end Full
namespace Full
open Go.RowKit Go.Deep Mem Crc Go.Maps Dk Mani Go.Proofs.YtbfochdoeibofaaGreatDoor.Read
open Store (Chg none' nv Files)
open Ext (Tab)
def CommitFall (B s d g cm:Nat) (w:World) (Q:Nat->Prop) (m:DM) (ver:Nat) (C:Chg) (H:Files) (o:Option (Nat×List Fil)) (e:Ending) (w':World):Prop:=
 match o with
 |none=>e=.returned (.int .i64 7)/\Below w.heap.size w w'
 |some p=>(e=.returned (.int .i64 0)/\(commitD m C p.2 (ver+1) (manL (ver+1) p.1 p.2)).2=0/\∃Q',On B s d g cm w' Q' (afterD m C ver p) (ver+1) p.1 p.2 none' (nowF C H) 0/\(∀k,Q' k->Q k\/w.heap.size<=k)/\Upon Q w w')\/
  (e=.returned (.int .i64 6)/\(commitD m C p.2 (ver+1) (manL (ver+1) p.1 p.2)).2≠0/\(afterD m C ver p).off=true/\∃wv',Dk w' d g wv' (afterD m C ver p)/\(∀k,Has d g wv' k->Q k\/w.heap.size<=k)/\Upon Q w w')
variable {B s d g cm:Nat} {w:World} {Q:Nat->Prop} {m:DM} {ver next:Nat} {fs:List Fil} {C:Chg} {H:Files} {n:Nat}
theorem on_commit_fall (h:On B s d g cm w Q m ver next fs C H n) (hn:n<=9000) {ss:List (List UInt8)} (hK:Keys C ss) (hC:¬∀nm,C nm=none):
  Calls Tryz.prog 13 #[.pointer (some ⟨s,0,none⟩)] w (CommitFall B s d g cm w Q m ver C H (planM C ss m.bl.length ver next fs)):=by
 obtain⟨wv,a,c,l,hfu,hl⟩:=h.fu;obtain⟨L,l1,l2,l3,l4⟩:=h.few;have hs:∀nm∈ss,nm.length<=32:=λnm hnm=>l3 nm (l1 nm ((hK.mem nm).1 hnm))
 refine(commit_any hfu h.tab L l1 (by omega) l3 l4 (by rw[hl];exact h.ok) hK h.off (by rw[h.wt];exact Nat.zero_le _) h.big hC).mono ?_;intro e w' hc;rw[hl]at hc
 cases hp:planM C ss m.bl.length ver next fs with
 |none=>rw[hp]at hc;exact hc
 |some p=>
  rw[hp]at hc;obtain⟨he,hu,Q',wv',hq,hr⟩:=hc
  by_cases z1: (commitD m C p.2 (ver+1) (manL (ver+1) p.1 p.2)).2=0
  ·rw[if_pos z1]at hr;obtain⟨a',c',l',hl',hf'⟩:=hr;obtain⟨nx,fs'⟩:=p;obtain⟨g1,g2,g3⟩:=commit_bl h.wt z1;have hbl:=commit_len h.wt z1;have hok:=(plan_okm h.ok h.small l4 hK hs hp).1;have hon:=commit_on rfl h.small h.on h.ok l4 hK hs hp h.wt _ z1;refine .inl ⟨by rw[he,z1],z1,Q',h.then hu hq ⟨wv',a',c',l',hf',hl'⟩ (g2.trans h.off) g3 ?_ hon ?_ (few_none 0),hq,hu⟩
   ·show 33<=(commitD m C fs' (ver+1) (manL (ver+1) nx fs')).1.bl.length;rw[hbl];exact h.big
   ·show Okm (commitD m C fs' (ver+1) (manL (ver+1) nx fs')).1.bl.length (ver+1) nx fs';rw[hbl];exact hok
  ·rw[if_neg z1]at hr;obtain⟨h6,hfl⟩:=commit_fell h.wt z1;refine .inr ⟨by rw[he,h6],z1,?_,wv',hr.disk,λk hk=>hq k (hr.qd k hk),hu⟩;unfold afterD;rcases hfl with hfl|hfl|hfl
   ·exact hfl.off
   ·exact hfl.off
   ·exact hfl.off
theorem open_stand {wv:Value} (hD:Dk w d g wv m) (hoff:m.off=false) (hz:m.fuse<0) (hwt:m.wt= []) (h33:33<=m.bl.length) (hs:Stand m.bl ver next fs) (hok:Okm m.bl.length ver next fs) (hon:OnDisk m.bl fs H) (hT:Tab w) (hpos:0<B) (hlow:B<=w.heap.size) (hbase:∀k,Has d g wv k->B<=k):
  Calls Tryz.prog 23 #[.pointer (some ⟨d,0,none⟩)] w λe w'=>∃s' cm' Q' m',e=.returned (.tuple #[.pointer (some ⟨s',0,none⟩),.int .i64 0])/\On B s' d g cm' w' Q' m' ver next fs none' H 0/\(∀k,Q' k->Has d g wv k\/w.heap.size<=k)/\Upon (Has d g wv) w w'/\m'.fuse<0:=by
 obtain⟨m',hm,hS,hs'⟩:=openL_stand hs hok hz hwt h33;refine(open_on hD hoff hwt h33).mono ?_;rintro e w' ⟨wv',hD',hu,ho,hop⟩;rw[hm]at hD' hop;unfold Opened at hop;rw[if_pos rfl]at hop;obtain⟨s',cm',a',c',l',he,hl',hf'⟩:=hop
 have hq:∀k,(Has d g wv' k\/(w.heap.size<=k/\k<w'.heap.size))->Has d g wv k\/w.heap.size<=k:=λk hk=>by
  rcases hk with(rfl|rfl|e)|e
  ·exact .inl (.inl rfl)
  ·exact .inl (.inr (.inl rfl))
  ·exact(ho k e).imp (λe2=>.inr (.inr e2)) id
  ·exact .inr e.1
 exact⟨s',cm',_,m',he,⟨⟨wv',a',c',l',hf',hl'⟩,hS.off.trans hoff,hS.wt,(by rw[hS.len];exact h33),hon.far hok hS.far,(by rw[hS.len];exact hok),few_none 0,λk hk=>(hq k hk).elim (hbase k) (λh8=>Nat.le_trans hlow h8),hT.below (hu.below hlow hbase) hpos,hpos,Nat.le_trans hlow hu.size⟩,hq,hu,by rw[hS.fuse];exact hz⟩
end Full
namespace Spoil
open Go.RowKit Mani Dk Mem Crc Full
open Store (Chg Files)
open Page (pageL pageB pageE pageN pageL_length)
theorem xor_left (a b c:Nat):a ^^^ (b ^^^ c)=b ^^^ (a ^^^ c):=by rw[<-Nat.xor_assoc,Nat.xor_comm a b,Nat.xor_assoc]
theorem xor_zero {a b:Nat} (h:a ^^^ b=0):a=b:=by
 have:=congrArg (λz=>z ^^^ b) h
 simpa[Nat.xor_assoc]using this
theorem tabStep_xor (a b:Nat):tabStep (a ^^^ b)=tabStep a ^^^ tabStep b:=by
 have h1: (a ^^^ b)/2=a/2 ^^^ b/2:=by
  have:=Nat.xor_div_two_pow (a:=a) (b:=b) (n:=1)
  simpa using this
 have h2: (a ^^^ b)%2=(a%2 ^^^ b%2):=by
  have:=Nat.xor_mod_two_pow (a:=a) (b:=b) (n:=1)
  simpa using this
 have h3:3988292384*(a%2 ^^^ b%2)=3988292384*(a%2) ^^^ 3988292384*(b%2):=by
  rcases Nat.mod_two_eq_zero_or_one a with e|e <;> rcases Nat.mod_two_eq_zero_or_one b with e2|e2 <;> rw[e,e2] <;> simp
 unfold Crc.tabStep;rw[h1,h2,h3];simp only[Nat.xor_assoc,Nat.xor_comm,xor_left]
theorem steps_xor:∀(n a b:Nat),steps n (a ^^^ b)=steps n a ^^^ steps n b
 |0,_,_=>rfl
 |n+1,a,b=>by
  show tabStep (steps n (a ^^^ b))=_;rw[steps_xor n a b,tabStep_xor]
  rfl
theorem steps_mul:∀(n m:Nat),steps n (m*2^n)=m
 |0,m=>by show m*1=m;omega
 |n+1,m=>by
  show tabStep (steps n (m*2^(n+1)))=m;rw[show m*2^(n+1)=(m*2)*2^n by rw[Nat.pow_succ,Nat.mul_assoc,Nat.mul_comm 2],steps_mul n (m*2)];unfold Crc.tabStep;rw[show m*2/2=m by omega,show m*2%2=0 by omega]
  simp
theorem split8 (x:Nat): (x%256) ^^^ (x/256*2^8)=x:=by
 apply Nat.eq_of_testBit_eq
 intro i;rw[Nat.testBit_xor,show(256:Nat)=2^8 from rfl,Nat.testBit_mod_two_pow,Nat.testBit_mul_two_pow,Nat.testBit_div_two_pow]
 by_cases h:i<8
 ·rw[jd h,jf (by omega)]
  simp
 ·rw[jf h,jd (by omega),show i-8+8=i by omega]
  simp
theorem crcStep_eq (x:Nat) (c:UInt8):crcStep x c=steps 8 (x ^^^ c.toNat):=by
 have h:x ^^^ c.toNat=(x%256 ^^^ c.toNat) ^^^ (x/256*2^8):=by
  conv=>lhs;rw[<-split8 x]
  simp only[Nat.xor_assoc,Nat.xor_comm,xor_left]
 unfold Crc.crcStep Crc.tabF;rw[h,steps_xor 8 (x%256 ^^^ c.toNat) (x/256*2^8),steps_mul]
end Spoil
namespace RefD
open Go.RowKit Go.Deep Mem Crc Full Spoil Mani
theorem step_int (x:Nat) (h:x<2^32): (x%2=1->bits .xor .u32 ((x:Int)/2) 3988292384=(tabStep x:Int))/\(x%2=0->(x:Int)/2=(tabStep x:Int)):=by
 constructor
 ·intro h1;unfold tabStep;rw[h1,Nat.mul_one,show(x:Int)/2=((x/2:Nat):Int)by omega];exact u32_xor_nat (x/2) 3988292384 (by omega) (by decide)
 ·intro h1;unfold tabStep;rw[h1,Nat.mul_zero,Nat.xor_zero]
  omega
theorem sum02_any (a:Option Addr) (cp:Nat) (bs:List UInt8) (w:World) (h:Lies w a (bs.map bv)) (hn:bs.length<=4000000):
  Calls Tryz.prog 169 #[.slice a bs.length cp] w λe w'=>e=.returned (.int .u32 (sumF bs:Int))/\w'=w:=by
 obtain⟨n,hnn⟩:=jl bs.length;rw[<-hnn]at hn⊢;have H:=jq h;have HN:=jq hnn;clear h hnn
 go_enter Tryz.func169,Tryz.ntmps169
 go_wp2_with fail
 go_loopw[3,8] (λx i wr=>∃k:Nat,k<=n/\i=.int .i64 (k:Int)/\wr=w/\x=.int .u32 ((crcRun 4294967295 (bs.take k):Nat):Int)) (λ_ i _=>n-(intOf i).toNat)
 case atStart=>exact⟨0,Nat.zero_le _,rfl,rfl,rfl⟩
 case round=>
  obtain⟨k,hk,rfl,rfl,hx⟩:=hrel;obtain⟨y0,hy0⟩:=jl (crcRun 4294967295 (bs.take k));have hy32:y0<2^32:=by rw[hy0];exact run_lt _ (by decide)
  rw[<-hy0]at hx;subst hx;have HY:=jq hy0;clear hy0
  by_cases hkn:k<n
  ·have hkd:decide ((k:Int) <(n:Int))=true:=jd (by omega);obtain⟨c,hc⟩:∃c,bs[k]? =some c:=⟨bs[k]'(by rw[<-HN.out];exact hkn),jg _⟩;obtain⟨g,o,rfl,c0⟩:=lies_at H.out (k:=k) (u:=bv c) (by rw[List.getElem?_map,hc];rfl)
   have hsuc:crcRun 4294967295 (bs.take (k+1))=steps 8 (y0 ^^^ c.toNat):=by
    rw[List.take_add_one,hc];unfold crcRun;rw[List.foldl_append,HY.out];exact crcStep_eq _ c
   have HSUC:=jq hsuc;obtain⟨cn,hcn⟩:=jl c.toNat;have hc256:cn<256:=by rw[hcn];exact c.toNat_lt
   have hbv:bv c=.int .u8 (cn:Int):=by rw[hcn];rfl
   rw[hbv]at c0;rw[<-hcn]at HSUC;have hxor:bits .xor .u32 (y0:Int) (cn:Int)=((y0 ^^^ cn:Nat):Int):=u32_xor_nat _ _ hy32 (by omega);obtain⟨y,hy⟩:=jl (y0 ^^^ cn);have hylt:y<2^32:=by rw[hy];exact Nat.xor_lt_two_pow hy32 (by omega)
   rw[<-hy]at hxor HSUC;have hcw:IntKind.u32.wrap (cn:Int)=(cn:Int):=by show(cn:Int)%4294967296=_;omega
   have HYL:=jq hylt;clear hc hsuc hcn hbv hy hylt
   go_wp2_with fail
   go_loopw[3,5] (λx i wq=>∃j:Nat,j<=8/\i=.int .i64 (j:Int)/\wq=wr/\x=.int .u32 ((steps j y:Nat):Int)) (λ_ i _=>8-(intOf i).toNat)
   case atStart=>exact⟨0,Nat.zero_le _,rfl,rfl,rfl⟩
   case round=>
    obtain⟨j,hj,rfl,rfl,hx⟩:=hrel;obtain⟨z,hz⟩:=jl (steps j y);have hzlt:z<2^32:=by rw[hz];exact steps_lt HYL.out j
    have hsz:steps (j+1) y=tabStep z:=by rw[hz];rfl
    obtain⟨hs1,hs0⟩:=step_int z hzlt;rw[<-hz]at hx;subst hx
    by_cases hj8:j<8
    ·have hjd:decide ((j:Int) <8)=true:=jd (by omega);have HSZ:=jq hsz;rcases Nat.mod_two_eq_zero_or_one z with hm|hm
     ·have h0:=hs0 hm;have hq: ((z:Int)%2==1)=false:=by rw[beq_eq_false_iff_ne];omega
      clear hs1 hs0 hsz hz
      go_wp2_with fail
      exact⟨⟨j+1,hj8,rfl,by first|rfl|trivial,by rw[HSZ.out]⟩,by simp[intOf];clear HSZ HSUC HY H HN;omega⟩
     ·have h1:=hs1 hm;have hq: ((z:Int)%2==1)=true:=by rw[beq_iff_eq];omega
      clear hs1 hs0 hsz hz
      go_wp2_with fail
      exact⟨⟨j+1,hj8,rfl,by first|rfl|trivial,by rw[HSZ.out]⟩,by simp[intOf];clear HSZ HSUC HY H HN;omega⟩
    ·have hj9:j=8:=by omega
     subst hj9;have hjd:decide (((8:Nat):Int) <8)=false:=by decide
     have HZ:=jq hz;clear hs1 hs0 hsz hz
     go_wp2_with fail
     exact⟨⟨k+1,hkn,rfl,by first|rfl|trivial,by rw[HSUC.out,HZ.out]⟩,by simp[intOf];exact Nat.sub_lt_sub_left hkn (Nat.lt_succ_self k)⟩
  ·obtain rfl:n=k:=by omega
   have hkd:decide ((n:Int) <(n:Int))=false:=jf (by omega)
   have hx1:bits .xor .u32 (y0:Int) 4294967295=((4294967295-y0:Nat):Int):=by
    have e1:=u32_xor_nat y0 4294967295 hy32 (by decide);have e2:=u32_xor_nat 4294967295 y0 (by decide) hy32;have e3:=not_u32 y0 hy32;rw[show(IntKind.u32.max:Int)=((4294967295:Nat):Int)from rfl,e2]at e3;rw[Nat.xor_comm]at e1;exact e1.trans e3
   go_wp2_with fail
   go_ret
   rw[HY.out,HN.out,List.take_length];exact⟨rfl,rfl⟩
end RefD
namespace Dk
open Go.RowKit Go.Deep Mem Crc Full
theorem and_bit (n j:Nat) (hn:n<18446744073709551616) (hj:j<64): (bits .and .u64 (n:Int) (IntKind.u64.wrap (2^j)) !=0)=n.testBit j:=by
 have h2: (2:Nat)^j<2^64:=Nat.pow_lt_pow_right (by decide) hj
 have e:n &&& 2^j=if n.testBit j then 2^j else 0:=by
  refine Nat.eq_of_testBit_eq (λi=>?_);rw[Nat.testBit_and,Nat.testBit_two_pow]
  by_cases hij:j=i
  ·subst hij;cases n.testBit j <;> simp
  ·cases n.testBit j <;> simp[hij]
 rw[Ext.pow_wrap j hj,u64_and_nat n (2^j) hn h2,e];cases n.testBit j
 ·rfl
 ·have:=Nat.two_pow_pos j;rw[if_pos rfl];refine bne_iff_ne.2 (λh=>?_);have h: ((2^j:Nat):Int)=0:=h
  omega
theorem backs_snoc (keep torn:Nat) (x:Nat×List UInt8):∀(ws:List (Nat×List UInt8)) (i:Nat) (bl:List (List UInt8)),backs keep torn i bl (ws++ [x])=backs keep torn (i+ws.length) (backs keep torn i bl ws) [x]
 | [],_,_=>rfl
 |y ::r,i,bl=>by
  rw[List.cons_append];unfold backs;rw[backs_snoc keep torn x r,List.length_cons,show i+1+r.length=i+(r.length+1)by omega]
  rfl
theorem backs_take {keep torn:Nat} {bl:List (List UInt8)} {ws:List (Nat×List UInt8)} {k:Nat} {x:Nat×List UInt8} (h:ws[k]? =some x):backs keep torn 0 bl (ws.take (k+1))=if keep.testBit (k%64)then(backs keep torn 0 bl (ws.take k)).set x.1 x.2 else if torn.testBit (k%64)then(backs keep torn 0 bl (ws.take k)).set x.1 (halfB ((backs keep torn 0 bl (ws.take k)).getD x.1 []) x.2)else backs keep torn 0 bl (ws.take k):=by
 have hk:=(jS.1 h).1;rw[List.take_add_one,h,show(some x).toList= [x]from rfl,backs_snoc,jT,Nat.min_eq_left (by omega),Nat.zero_add]
 rfl
theorem back_step {d g k xi:Nat} {wv:Value} {m:DM} {W:World} {bl bl':List (List UInt8)} {xb bs:List UInt8} (h:Dk W d g wv {m with bl:=bl}) (_:m.wt[k]? =some (xi,xb)) (hb:bl'=bl.set xi bs) (hi:xi<bl.length) (hl:bs.length=128):
  Dk (W.drew.setCells g (xi*128) (bs.map bv)) d g wv {m with bl:=bl'}:=by
 have h1:=sync_step (d:=d) (g:=g) (xi:=xi) (k:=0) (wv:=wv) (m:=⟨bl,[(xi,bs)],false,0⟩) (m1:=m) (W:=W) (xb:=bs) (bs:=bs.map bv) (by exact h) rfl rfl hi hl;have e:puts bl ([(xi,bs)].take 1)=bl':=hb.symm;rw[show((⟨bl,[(xi,bs)],false,0⟩:DM)).wt.take (0+1)= [(xi,bs)].take 1 from rfl,show((⟨bl,[(xi,bs)],false,0⟩:DM)).bl=bl from rfl,e]at h1;exact h1
theorem blC_split {bl:List (List UInt8)} (h:∀b∈bl,b.length=128) {i:Nat} (hi:i<bl.length) (b:List UInt8):blC (bl.set i b)=blC (bl.take i)++(b.map bv++blC (bl.drop (i+1)))/\(blC (bl.take i)).length=i*128:=by
 constructor
 ·rw[List.set_eq_take_append_cons_drop,if_pos hi];unfold blC;rw[List.flatMap_append,jC]
 ·rw[blC_length (λx hx=>h x (List.mem_of_mem_take hx)),jT,Nat.min_eq_left (by omega)]
theorem half_step {d g xi:Nat} {wv:Value} {m:DM} {W:World} {bl bl':List (List UInt8)} {xb:List UInt8} (h:Dk W d g wv {m with bl:=bl}) (hb:bl'=bl.set xi (halfB (bl.getD xi []) xb)) (hi:xi<bl.length) (hl:xb.length=128):
  Dk (W.drew.setCells g (xi*128) ((xb.map bv).take 64)) d g wv {m with bl:=bl'}:=by
 have hlen:∀b∈bl,b.length=128:=h.len;have hold: (bl.getD xi []).length=128:=hlen _ (by rw[List.getD_eq_getElem?_getD,jg hi];exact List.getElem_mem _)
 have hset:bl.set xi (bl.getD xi [])=bl:=by
  rw[List.getD_eq_getElem?_getD,jg hi];exact List.set_getElem_self hi
 obtain⟨p1,p2⟩:=blC_split hlen hi (bl.getD xi []);obtain⟨q1,_⟩:=blC_split hlen hi (halfB (bl.getD xi []) xb);rw[hset]at p1;have hl2:bl'.length=bl.length:=by rw[hb,List.length_set]
 have h64: ((xb.map bv).take 64).length=64:=by rw[jT,jP,hl];rfl
 have ho:Only [g] W (W.drew.setCells g (xi*128) ((xb.map bv).take 64)):=Only.setCells _ (xi*128) ((Only.refl [g] W).drew) (.inl (by simp))
 obtain⟨cs',h1,h2⟩:=Blk.splice ((xb.map bv).take 64) (xi*128) W.drew (blC bl).toArray h.row (by
  rw[List.size_toArray,blC_length hlen,h64];have:=Nat.mul_le_mul_right 128 (Nat.succ_le_of_lt hi);rw[Nat.succ_mul]at this
  omega)
 have hrow:cs'=(blC bl').toArray:=by
  apply Array.ext'
  rw[h2,hb,q1,h64,List.toList_toArray,List.toList_toArray,p1];generalize blC (bl.take xi)=A at p2⊢;generalize blC (bl.drop (xi+1))=Z;have e1:List.take (xi*128) (A++((bl.getD xi []).map bv++Z))=A:=by rw[<-p2,List.take_left]
  have e2:List.drop (xi*128+64) (A++((bl.getD xi []).map bv++Z))=((bl.getD xi []).drop 64).map bv++Z:=by
   rw[<-p2,List.drop_length_add_append,List.drop_append,jP,hold,List.map_drop]
   rfl
  rw[e1,e2];unfold halfB;rw[List.map_append,List.map_take]
  simp
 refine⟨?_,by rw[<-hrow];exact h1,own_only h.wt ho (λq hq hm=>h.wg (by rw[hq,jE.1 hm])),?_,?_,h.f0,h.f1,?_,h.nil⟩
 ·show Blk _ d _ #[.slice _ bl'.length bl'.length,_,_,_];rw[hl2];exact h.disk.only ho (by simpa using h.dg)
 ·show∀b∈bl',b.length=128;rw[hb];intro b hb';rcases List.mem_or_eq_of_mem_set hb' with hb'|rfl
  ·exact hlen b hb'
  ·exact halfB_length hold hl
 ·intro x hx';refine⟨?_,(h.wlen x hx').2⟩;show x.1<bl'.length;rw[hl2];exact(h.wlen x hx').1
 ·show bl'.length<=65536;rw[hl2];exact h.small
theorem fuse_on {d g:Nat} {wv:Value} {m:DM} (n:Int) (h0: -9223372036854775808<=n) (h1:n<=9223372036854775807) {w:World} (h:Dk w d g wv m):
  Calls Tryz.prog 31 #[.pointer (some ⟨d,0,none⟩),.int .i64 n] w λe w'=>e=.returned (.tuple #[])/\Dk w' d g wv {m with fuse:=n}/\Only [d] w w':=by
 obtain⟨c0,c1,c2,c3⟩:=h.cells;have f3:=h.disk.frozen 3;have HH:=jq h;clear h c0 c1 c2
 go_enter Tryz.func31,Tryz.ntmps31
 go_wp2_with fail
 go_end0
 have h:=HH.out;have ho:Only [d] w (w.setCell ⟨d,3,none⟩ (.int .i64 n)):=Only.set (Only.refl [d] w) (.inl (by simp)) _;exact⟨rfl,⟨h.disk.set 3 (.int .i64 n),h.row.far (Ne.symm h.dg) _,own_only h.wt ho (λq hq hm=>h.wd (by rw[hq,jE.1 hm])),h.len,h.wlen,h0,h1,h.small,h.nil⟩,ho⟩
theorem back_on {d g:Nat} {wv:Value} {m:DM} (keep torn:Nat) (hke:keep<18446744073709551616) (hto:torn<18446744073709551616) {w:World} (h:Dk w d g wv m) (hn:m.wt.length<=1000000):
  Calls Tryz.prog 33 #[.pointer (some ⟨d,0,none⟩),.int .u64 (keep:Int),.int .u64 (torn:Int)] w λe w'=>e=.returned (.tuple #[])/\∃wv',Dk w' d g wv' (backD m keep torn)/\Upon (λk=>k=d\/k=g) w w'/\∀k,wv'.ownBlock=some k->wv.ownBlock=some k:=by
 obtain⟨n,hnn⟩:=jl m.wt.length;obtain⟨wa,wc,rfl,hwc,hLw,hwb,hwo⟩:=own_shape h.wt;have c1:=h.cells.2.1;rw[<-hnn]at c1 h hwc;have hnm:n<=1000000:=by rw[hnn];exact hn
 have HD2:=jq h;have HNN:=jq hnn;clear h hnn hLw hwb hwo hn
 go_enter Tryz.func33,Tryz.ntmps33
 go_wp2_with fail
 go_loopw[16] (λi wr=>∃k,k<=n/\i=.int .i64 k/\Dk wr d g (.slice wa n wc) {m with bl:=backs keep torn 0 m.bl (m.wt.take k)}/\Upon (λq=>q=d\/q=g) w wr) (λi _=>n-(intOf i).toNat)
 case atStart=>exact⟨0,Nat.zero_le _,rfl,HD2.out,Upon.refl _ _⟩
 case round=>
  obtain⟨k,hk,rfl,hdk,hup⟩:=hrel
  by_cases hlt:k<n
  ·obtain⟨x,hx⟩:∃x,m.wt[k]? =some x:=⟨m.wt[k]'(by rw[<-HNN.out];exact hlt),jg _⟩;obtain⟨xi,xb⟩:=x;obtain⟨wa',wc',e,hz1,hLw,hz2,hz3⟩:=own_shape hdk.wt;clear hz1 hz2 hz3;obtain⟨hxi,hxb⟩:=hdk.wlen (xi,xb) (jM hx);have hxi':xi<(backs keep torn 0 m.bl (m.wt.take k)).length:=hxi;have hxb':xb.length=128:=hxb;have e2:wa'=wa:=by injection e with e _ _;exact e.symm
   subst e2
   obtain⟨wg,wo,rfl,hwl,hc⟩:=hLw.resolve_left (λe0=>by
    have h1:=wtC_length (l:=m.wt) (λy hy=>(HD2.out.wlen y hy).2);have h2:wtC m.wt= []:=e0;rw[h2,<-HNN.out]at h1
    simp at h1
    omega)
   obtain⟨cs,hcs⟩:=jl (Value.int .i64 (xi:Int)::xb.map bv);have hcl:cs.length=129:=by rw[hcs,List.length_cons,jP,hxb']
   have hR:wr.rangeAt wg (wo+k*129) cs:=λj v hv=>by
    have:=hc (k*129+j) v (flat_at (l:=m.wt) (f:=λx=>Value.int .i64 (x.1:Int)::x.2.map bv) (λy hy=>by simp[(HD2.out.wlen y hy).2]) (x:=(xi,xb)) hx (by rw[<-hcs];exact hv))
    rwa [<-Nat.add_assoc]at this
   have hone:∀v∈cs,v.oneCell'=true:=λv hv=>by
    rw[hcs]at hv;rcases List.mem_cons.1 hv with rfl|hv
    ·rfl
    ·exact oneCell_bytes xb v hv
   have HDK:=jq hdk;have HUP:=jq hup;have HR:=jq hR;have HONE:=jq hone;have HCS:=jq hcs;have HCL:=jq hcl;have HXB:=jq hxb';clear hdk hup hR hone hcs hcl hxb hxb' e hLw hc hxi;obtain⟨bx,hbx⟩:=jl wr.heap.size
   have hth: (wr.alloc (.cells Tryz.zeroCells127 127)).there bx 0 cs.toArray.size:=by
    have h1:=new_thereC wr 127 Tryz.zeroCells127;rw[zeroWr,<-hbx]at h1;rw[List.size_toArray,HCL.out];exact h1
   have HTH:=jq hth;obtain⟨W,hW⟩:=jl ((wr.alloc (.cells Tryz.zeroCells127 127)).setCells bx 0 cs);have HW:=jq hW;clear hth hW;obtain⟨bs,hbs⟩:=jl (xb.map bv);have hbl:bs.length=128:=by rw[hbs,jP,HXB.out]
   have hbB:Blk W bx 127 cs.toArray:=by
    rw[HW.out,hbx];exact blk_filled wr _ _ cs (by rw[zeroWr,HCL.out])
   have hBW:Below wr.heap.size wr W:=by
    rw[HW.out,hbx];exact below_setCells jn cs 0 ((Below.refl _ wr).alloc jn _)
   have hdW:=HDK.out.later hBW;have c0:=hdW.cells.1;obtain⟨N,hN⟩:=jl ((backs keep torn 0 m.bl (m.wt.take k)).length);have hN0: (({m with bl:=backs keep torn 0 m.bl (m.wt.take k)}:DM)).bl.length=N:=hN.symm;rw[hN0]at c0;rw[<-hN]at hxi'
   have hSa:W.cell? ⟨d,0,none⟩=some (.slice (some ⟨g,0,none⟩) N N)/\W.cell? ⟨bx,0,none⟩=some (.int .i64 (xi:Int))/\W.rangeAt bx 1 bs/\W.there g (xi*128) bs.toArray.size:=by
    refine⟨c0,?_,λj v hv=>?_,?_⟩
    ·rw[hbB.cell,HCS.out];rfl
    ·rw[hbB.cell,HCS.out,<-hbs,Nat.add_comm 1 j]
     simpa using hv
    ·rw[List.size_toArray,hbl];exact blk_there hdW.row (by rw[List.size_toArray,blC_length hdW.len,hN0];have:=Nat.mul_le_mul_right 128 (Nat.succ_le_of_lt hxi');rw[Nat.succ_mul]at this;exact this)
   have hne1:g≠d:=Ne.symm hdW.dg;have hne2:g≠bx:=by have:=HDK.out.row.lt;omega
   have hzo:∀v∈bs,v.oneCell'=true:=λv hv=>by rw[hbs]at hv;exact oneCell_bytes xb v hv
   have hu:Tryz.prog.underlying 125=_:=Tryz.underlying125;have hinf: (Tryz.prog.info? 125).map (·.size)=some bs.length:=by rw[hbl];exact infoBl
   have hinf2: (Tryz.prog.info? 125).map (·.size)=some bs.toArray.size:=by simp only[List.size_toArray,hbl];exact infoBl
   have HBS:=jq hbs;have HBL:=jq hbl;have HBW:=jq hBW;have HDWW:=jq hdW;have HN:=jq hN;clear hbs hbl hbB hBW hdW c0 hN hN0;have hk64:k%64<64:=Nat.mod_lt _ (by decide);have hqk:=and_bit keep (k%64) hke hk64;have hqt:=and_bit torn (k%64) hto hk64;cases hbk:keep.testBit (k%64)with
   |true=>
    rw[hbk]at hqk;clear hqt;have hS0:=hSa;have HS0:=jq hS0;clear hS0 hSa
    go_wp2_with (first|(refine wpList_load_mid rfl _ _ rfl wg (wo+k*129) (by simp[Act.eval]) cs _ HR.out Tryz.underlying127 rfl (by rw[HCL.out];exact infoWrS) ?_)|(refine wpList_store_mid rfl _ _ _ rfl bx 0 cs.toArray (by rw[hbx];simp[Act.eval]) (by simp[Act.eval]) HTH.out (by rw[List.size_toArray,HCL.out];exact infoWrS) (all_oneCell_toArray HONE.out) ?_;rw[List.toList_toArray,<-HW.out]))
    rw[<-hbx];clear hbx;have hS1:W.drew.cell? ⟨d,0,none⟩=some (.slice (some ⟨g,0,none⟩) N N)/\W.drew.cell? ⟨bx,0,none⟩=some (.int .i64 (xi:Int))/\W.drew.rangeAt bx 1 bs/\W.drew.there g (xi*128) bs.toArray.size:=HS0.out
    have hS2: (W.drew.setCells g (xi*128) bs).cell? ⟨d,0,none⟩=some (.slice (some ⟨g,0,none⟩) N N)/\(W.drew.setCells g (xi*128) bs).cell? ⟨bx,0,none⟩=some (.int .i64 (xi:Int))/\(W.drew.setCells g (xi*128) bs).rangeAt bx 1 bs/\(W.drew.setCells g (xi*128) bs).there g (xi*128) bs.toArray.size:=
     ⟨by rw[World.cell?_setCells_out g bs _ _ _ (λhb _=>absurd hb (Ne.symm hne1))];exact hS1.1,by rw[World.cell?_setCells_out g bs _ _ _ (λhb _=>absurd hb (Ne.symm hne2))];exact hS1.2.1,World.rangeAt_setCells_apart hS1.2.2.1 _ _ _ (.inl (Ne.symm hne2)),World.there_setCells hS1.2.2.2 _ _ _⟩
    go_region_held3 (λw'=>w'.cell? ⟨d,0,none⟩=some (.slice (some ⟨g,0,none⟩) N N)/\w'.cell? ⟨bx,0,none⟩=some (.int .i64 (xi:Int))/\w'.rangeAt bx 1 bs/\w'.there g (xi*128) bs.toArray.size) (first|exact hS1|exact hS2) (skip)
    have HD3:=jq (back_step (bl':=backs keep torn 0 m.bl (m.wt.take (k+1))) (xb:=xb) (bs:=xb) HDWW.out hx (by rw[backs_take hx,hbk];rfl) (by show xi<(backs keep torn 0 m.bl (m.wt.take k)).length;rw[<-HN.out];exact hxi') HXB.out);have HU3:Hid (Upon (λq=>q=d\/q=g) w (W.drew.setCells g (xi*128) bs)):=jq (HUP.out.trans (Upon.of_only (F:=[g]) (Only.setCells bs (xi*128) ((Only.of_below HBW.out).drew) (.inl (by simp))) (λq hq=>.inl (.inr (jE.1 hq)))) (λq hq=>.inl hq));rw[<-HBS.out]at HD3;obtain⟨W2,hW2⟩:=jl (W.drew.setCells g (xi*128) bs);rw[<-hW2]at HD3 HU3⊢;clear hW2 hS1 hS2 hinf hinf2 hu hzo hxi' hne1 hne2 hwl hqk
    rename_i hHeld
    clear hHeld;have hw:RowKit.wrap64 ((k:Int)+1)=(k:Int)+1:=IntWalk.wrap64_in _ (by omega)
    go_wp2_with fail
    go_roundw
    case rel=>exact⟨k+1,Nat.succ_le_of_lt hlt,by simp,HD3.out,HU3.out⟩
    case measure=>simp[intOf];exact Nat.sub_lt_sub_left hlt (Nat.lt_succ_self k)
   |false=>
   rw[hbk]at hqk;cases hbt:torn.testBit (k%64)with
   |false=>
    rw[hbt]at hqt;clear hSa hzo hu hinf hinf2
    go_wp2_with (first|(refine wpList_load_mid rfl _ _ rfl wg (wo+k*129) (by simp[Act.eval]) cs _ HR.out Tryz.underlying127 rfl (by rw[HCL.out];exact infoWrS) ?_)|(refine wpList_store_mid rfl _ _ _ rfl bx 0 cs.toArray (by rw[hbx];simp[Act.eval]) (by simp[Act.eval]) HTH.out (by rw[List.size_toArray,HCL.out];exact infoWrS) (all_oneCell_toArray HONE.out) ?_;rw[List.toList_toArray,<-HW.out]))
    case roundEnd=>
     clear hk64 hqk hqt;refine⟨⟨k+1,Nat.succ_le_of_lt hlt,rfl,?_,HUP.out.trans (Upon.of_below HBW.out) (λq hq=>.inl hq)⟩,?_⟩
     ·rw[backs_take hx,hbk,hbt];exact HDWW.out
     ·simp[intOf];exact Nat.sub_lt_sub_left hlt (Nat.lt_succ_self k)
   |true=>
   have hcp: (Builtin.copy_ #[22,22] 3 #[.slice (some ⟨g,xi*128,none⟩) 64 128,.slice (some ⟨bx,1,none⟩) 64 128]).run Tryz.prog W.drew=.ok (goInt 64) (W.drew.setCells g (xi*128) (bs.take 64)):=by
    have h64: (bs.take 64).length=64:=by rw[jT,HBL.out];rfl
    have h:=run_copy_cells (P:=Tryz.prog) W.drew 22 22 3 5 g (xi*128) 64 128 ⟨bx,1,none⟩ 64 128 (bs.take 64) Tryz.underlying22 (by kernel_rfl) (by rw[h64];rfl)
     (λj v hv=>by
      rw[List.getElem?_take]at hv
      by_cases hj:j<64
      ·rw[if_pos hj]at hv;have h:=hSa.2.2.1 j v hv
       by_cases hj0:j=0
       ·subst hj0;simpa[Addr.add]using h
       ·simpa[Addr.add,hj0]using h
      ·rw[if_neg hj]at hv;cases hv)
     (λj hj=>(hSa.2.2.2 j (by rw[h64]at hj;rw[List.size_toArray,HBL.out];omega)).1)
     (λj hj=>(hSa.2.2.2 j (by rw[h64]at hj;rw[List.size_toArray,HBL.out];omega)).2)
     (λv hv=>hzo v (List.mem_of_mem_take hv))
    rw[h64]at h;exact h
   have hA0:W.drew.cell? ⟨d,0,none⟩=some (.slice (some ⟨g,0,none⟩) N N):=hSa.1;have hA1:W.drew.cell? ⟨bx,0,none⟩=some (.int .i64 (xi:Int)):=hSa.2.1;have HSA:=jq hSa;clear hSa hzo hinf hinf2
   go_wp2_with (first|(refine wpList_load_mid rfl _ _ rfl wg (wo+k*129) (by simp[Act.eval]) cs _ HR.out Tryz.underlying127 rfl (by rw[HCL.out];exact infoWrS) ?_)|(refine wpList_store_mid rfl _ _ _ rfl bx 0 cs.toArray (by rw[hbx];simp[Act.eval]) (by simp[Act.eval]) HTH.out (by rw[List.size_toArray,HCL.out];exact infoWrS) (all_oneCell_toArray HONE.out) ?_;rw[List.toList_toArray,<-HW.out]))
   rw[<-hbx];clear hbx
   go_region_law (skip)
   all_goals
    have HD3:=jq (half_step (bl':=backs keep torn 0 m.bl (m.wt.take (k+1))) (xb:=xb) HDWW.out (by rw[backs_take hx,hbk,hbt];rfl) (by show xi<(backs keep torn 0 m.bl (m.wt.take k)).length;rw[<-HN.out];exact hxi') HXB.out);have HU3:Hid (Upon (λq=>q=d\/q=g) w (W.drew.setCells g (xi*128) (bs.take 64))):=jq (HUP.out.trans (Upon.of_only (F:=[g]) (Only.setCells (bs.take 64) (xi*128) ((Only.of_below HBW.out).drew) (.inl (by simp))) (λq hq=>.inl (.inr (jE.1 hq)))) (λq hq=>.inl hq));rw[<-HBS.out]at HD3;obtain⟨W2,hW2⟩:=jl (W.drew.setCells g (xi*128) (bs.take 64));rw[<-hW2]at HD3 HU3⊢;clear hW2 hcp hA0 hA1 hu hxi' hne1 hne2 hwl hqk hqt;have hw:RowKit.wrap64 ((k:Int)+1)=(k:Int)+1:=IntWalk.wrap64_in _ (by omega)
    go_wp2_with fail
    go_roundw
    case rel=>exact⟨k+1,Nat.succ_le_of_lt hlt,by simp,HD3.out,HU3.out⟩
    case measure=>simp[intOf];exact Nat.sub_lt_sub_left hlt (Nat.lt_succ_self k)
  ·obtain rfl:k=n:=by omega
   have f1:=hdk.disk.frozen 1;have f2:=hdk.disk.frozen 2;have f3:=hdk.disk.frozen 3;obtain⟨-,c1',c2',c3'⟩:=hdk.cells;have HDK:=jq hdk;have HUP:=jq hup;clear hdk hup c1
   go_wp2_with fail
   go_end0
   have htk:m.wt.take k=m.wt:=by rw[HNN.out,List.take_length]
   have hd:=HDK.out;rw[htk]at hd;refine⟨rfl,.slice none 0 0,⟨((hd.disk.set 1 (.slice none 0 0)).set 2 (.bool false)).set 3 (.int .i64 (-1)),((hd.row.far (Ne.symm hd.dg) _).far (Ne.symm hd.dg) _).far (Ne.symm hd.dg) _,⟨rfl,.inl ⟨rfl,rfl⟩⟩,hd.len,(λx hx=>by cases hx),by show(-9223372036854775808:Int)<= -1;decide,by show(-1:Int)<=9223372036854775807;decide,hd.small,λ_=>rfl⟩,((HUP.out.set (.inl (.inl rfl)) _).set (.inl (.inl rfl)) _).set (.inl (.inl rfl)) _,λq hq=>by cases hq⟩
end Dk
namespace RefD
open Go.RowKit Go.Deep Mem Crc Full Mani Go.Proofs.YtbfochdoeibofaaGreatDoor.Read Go.Proofs.YtbfochdoeibofaaGreatDoor.Frame
open Store (nv)
def RV (B:Nat) (w:World) (s:St) (v:Value):Prop:=∃(a:Option Addr) (n c:Nat),v=.agg #[.slice a n c,.int .i64 s.2]/\(s.2=0->n=s.1.length/\n<=c/\Lies w a (s.1.map bv)/\∀k,Mem.blk a=some k->k<B)
theorem RV.later {B:Nat} {w w':World} {s:St} {v:Value} (h:RV B w s v) (hB:Below w.heap.size w w'):RV B w' s v:=by
 obtain⟨a,n,c,e,h⟩:=h;exact⟨a,n,c,e,λk=>⟨(h k).1,(h k).2.1,(h k).2.2.1.later hB,(h k).2.2.2⟩⟩
theorem slice_hi8 (a:Option Addr) (len cap m:Nat) (h1:m<=cap) (W:World): (Instr.sliceAt 22 (.slice a len cap) none (some (.int .i64 (m:Int))) none).run Tryz.prog W=.ok (.slice a m cap) W:=by
 have hel:Tryz.prog.elem 22=5:=by kernel_rfl
 have hu:Tryz.prog.underlying 22=some (.slice (Tryz.prog.elem 22)):=by rw[hel];exact Tryz.underlying22
 have hsz:∀W:World,(sizeOf 5).run Tryz.prog W=.ok 1 W:=λW=>by kernel_rfl
 rw[run_sliceAt_slice W _ _ _ _ _ hu,run_slice_h W _ _ _ _ hu .i64 (m:Int) (by omega) (by omega),hel,hsz]
 cases a with
 |none=>simp[Result.andThen,sliced]
 |some p=>
  have:p.add 0=p:=by unfold Addr.add;cases p;split <;> simp_all
  simp[Result.andThen,sliced,this]
theorem rnum_bad (a:Option Addr) (n cap:Nat) (k:Int) (hk:k≠0) (most:Nat) (w:World):
  Calls Tryz.prog 100 #[.agg #[.slice a n cap,.int .i64 k],.int .u64 (most:Int)] w λe w'=>e=.returned (.tuple #[.int .u64 0,.agg #[.slice a n cap,.int .i64 k]])/\Below w.heap.size w w':=by
 obtain⟨W1,hW1⟩:=jl ((w.alloc (.cells #[.slice a n cap,.int .i64 k] 178)).alloc (.cells #[.slice none 0 0,.int .i64 0] 178));obtain⟨pb,hpb⟩:=jl w.heap.size;obtain⟨rb,hrb⟩:=jl (w.heap.size+1)
 have hpk:Blk W1 pb 178 #[.slice a n cap,.int .i64 k]:=by
  rw[hW1,hpb];exact(Blk.new w _ _).below ((Below.refl _ _).alloc jn _) (by simp)
 have hrk:Blk W1 rb 178 #[.slice none 0 0,.int .i64 0]:=by
  rw[hW1,hrb];have h:=Blk.new (w.alloc (.cells #[.slice a n cap,.int .i64 k] 178)) 178 #[.slice none 0 0,.int .i64 0]
  simpa using h
 have hal:Below w.heap.size w W1:=by rw[hW1];exact((Below.refl _ w).alloc jn _).alloc (by simp) _
 have p0:=hpk.cell 0;have p1:=hpk.cell 1
 simp at p0 p1
 have z0:=hrk.frozen 0;have z1:=hrk.frozen 1;have r0:=hrk.cell 0;have r1:=hrk.cell 1
 simp at r0 r1
 have hrw:w.heap.size<=rb:=by omega
 have HE:Hid (Below w.heap.size w ((W1.setCell ⟨rb,0,none⟩ (.slice a n cap)).setCell ⟨rb,1,none⟩ (.int .i64 k)).drew):=jq ((hal.setCell hrw _).setCell hrw _).drew;have p1e: ((w.alloc (.cells #[.slice a n cap,.int .i64 k] 178)).alloc (.cells #[.slice none 0 0,.int .i64 0] 178)).cell? ⟨w.heap.size,1,none⟩=some (.int .i64 k):=by rw[<-hW1,<-hpb];exact p1
 have q:=box_set hrk (.slice a n cap) (.int .i64 k);have q0:=q.cell 0;have q1:=q.cell 1
 simp at q0 q1
 have hk1: (k==0)=false:=by simpa using hk
 have hk2: (k !=0)=true:=by simpa using hk
 have HW1:=jq hW1;have HPB:=jq hpb;have HRB:=jq hrb;clear hpk hrk hal hW1 hpb hrb hrw q hk
 go_enter Tryz.func100,Tryz.ntmps100
 go_wp2_with fail
 have hW1:=HW1.out;have hrb:=HRB.out;have hpb:=HPB.out;rw[<-hW1,<-hrb,<-hpb];clear p1e hW1 hrb hpb
 go_region_law (skip)
 have q0': (((W1.setCell ⟨rb,0,none⟩ (.slice a n cap)).setCell ⟨rb,1,none⟩ (.int .i64 k)).drew).cell? ⟨rb,0,none⟩=some (.slice a n cap):=q0;have q1': (((W1.setCell ⟨rb,0,none⟩ (.slice a n cap)).setCell ⟨rb,1,none⟩ (.int .i64 k)).drew).cell? ⟨rb,1,none⟩=some (.int .i64 k):=q1
 go_wp2_with fail
 refine bodyPost_ret (v:=.tuple #[.int .u64 0,.agg #[.slice a n cap,.int .i64 k]]) (by simp[results,Tryz.results100,go_sem,q0',q1']) rfl ?_;exact⟨rfl,HE.out⟩
theorem rend_any {B:Nat} (v:Value) (s:St) (w:World) (h:RV B w s v):
  Calls Tryz.prog 103 #[v] w λe w'=>e=.returned (.int .i64 (endE s.1 s.2))/\Below w.heap.size w w':=by
 obtain⟨a,n,cap,rfl,hv⟩:=h;obtain⟨bs,k⟩:=s;dsimp only at hv⊢;have HAL:Hid (∀n k,Below w.heap.size w (w.alloc (.cells #[.slice a n cap,.int .i64 k] 178))):=jq (λn k=>(Below.refl _ w).alloc jn _)
 by_cases hk:k=0
 ·subst hk;obtain⟨rfl,_,_,_⟩:=hv rfl;obtain⟨L,hL⟩:=jl bs.length;rw[<-hL]
  by_cases h0:0<L
  ·have e:endE bs 0=4:=by
    unfold endE;rw[if_pos rfl,if_neg (by intro e;rw[e]at hL;simp at hL;omega)]
   have hd:decide (0<L)=true:=jd h0;rw[e];clear hv h0 hL e
   go_enter Tryz.func103,Tryz.ntmps103
   go_wp2_with fail
   go_ret
   exact⟨rfl,HAL.out _ _⟩
  ·have e:endE bs 0=0:=by
    unfold endE;rw[if_pos rfl,if_pos (List.length_eq_zero_iff.1 (by omega))]
   obtain rfl:L=0:=by omega
   rw[e];clear hv h0 hL e
   go_enter Tryz.func103,Tryz.ntmps103
   go_wp2_with fail
   go_ret
   exact⟨rfl,HAL.out _ _⟩
 ·have e:endE bs k=k:=if_neg hk;have hk1: (k==0)=false:=by simpa using hk
  rw[e];clear hv hk e
  go_enter Tryz.func103,Tryz.ntmps103
  go_wp2_with fail
  go_ret
  exact⟨rfl,HAL.out _ _⟩
def BytesGot (B n:Nat) (s:St) (w:World) (e:Ending) (w':World):Prop:=∃(va:Option Addr) (vc:Nat) (v':Value),e=.returned (.tuple #[.slice va (bytesS n s).1.length vc,v'])/\Lies w' va ((bytesS n s).1.map bv)/\(∀k,Mem.blk va=some k->k<B\/w.heap.size<=k)/\RV B w' (bytesS n s).2 v'/\Below w.heap.size w w'
theorem rbytes_any {B:Nat} (v:Value) (s:St) (n:Nat) (w:World) (h:RV B w s v) (hn:n<=1000000) (hl:s.1.length<=4000000):
  Calls Tryz.prog 101 #[v,.int .i64 (n:Int)] w (BytesGot B n s w):=by
 obtain⟨a,m,cap,rfl,hv⟩:=h;obtain⟨bs,k⟩:=s;dsimp only at hv hl⊢;obtain⟨W1,hW1⟩:=jl ((w.alloc (.cells #[.slice a m cap,.int .i64 k] 178)).alloc (.cells #[.slice none 0 0,.int .i64 0] 178));obtain⟨pb,hpb⟩:=jl w.heap.size;obtain⟨rb,hrb⟩:=jl (w.heap.size+1)
 have hpk:Blk W1 pb 178 #[.slice a m cap,.int .i64 k]:=by
  rw[hW1,hpb];exact(Blk.new w _ _).below ((Below.refl _ _).alloc jn _) (by simp)
 have hrk:Blk W1 rb 178 #[.slice none 0 0,.int .i64 0]:=by
  rw[hW1,hrb];have h:=Blk.new (w.alloc (.cells #[.slice a m cap,.int .i64 k] 178)) 178 #[.slice none 0 0,.int .i64 0]
  simpa using h
 have hal:Below w.heap.size w W1:=by rw[hW1];exact((Below.refl _ w).alloc jn _).alloc (by simp) _
 have p0:=hpk.cell 0;have p1:=hpk.cell 1
 simp at p0 p1
 have z0:=hrk.frozen 0;have z1:=hrk.frozen 1;have r0:=hrk.cell 0;have r1:=hrk.cell 1
 simp at r0 r1
 have hrw:w.heap.size<=rb:=by omega
 have p1e: ((w.alloc (.cells #[.slice a m cap,.int .i64 k] 178)).alloc (.cells #[.slice none 0 0,.int .i64 0] 178)).cell? ⟨w.heap.size,1,none⟩=some (.int .i64 k):=by rw[<-hW1,<-hpb];exact p1
 have p0e: ((w.alloc (.cells #[.slice a m cap,.int .i64 k] 178)).alloc (.cells #[.slice none 0 0,.int .i64 0] 178)).cell? ⟨w.heap.size,0,none⟩=some (.slice a m cap):=by rw[<-hW1,<-hpb];exact p0
 have HRK:=jq hrk;have HAL:=jq hal;have HRWB:=jq hrw;have HW1:=jq hW1;have HPB:=jq hpb;have HRB:=jq hrb
 by_cases hk:k=0
 ·subst hk;obtain⟨rfl,hcap,hL,hA⟩:=hv rfl;have HA:=jq hA;obtain⟨L,hLL⟩:=jl bs.length;rw[<-hLL]at hcap hl p0 p0e p1e HW1;rw[<-hLL];have HLI:=jq hL;have HLL:=jq hLL;have d0:decide ((n:Int) <0)=false:=jf (by omega)
  by_cases hlt:L<n
  ·have d1:decide ((L:Int) <(n:Int))=true:=jd (by omega);have e:bytesS n (bs,0)=([],(bs,2)):=by unfold bytesS;rw[if_pos rfl,if_pos (by rw[<-hLL];exact hlt)]
   have HE:=jq e;have q:=(Blk.new (w.alloc (.cells #[.slice a L cap,.int .i64 0] 178)) 178 #[.slice none 0 0,.int .i64 2]).below ((Below.refl _ _).alloc jn (.cells #[] 5)) (by simp);have q0:=q.cell 0;have q1:=q.cell 1
   simp at q0 q1
   have HB:Hid (Below w.heap.size w (((w.alloc (.cells #[.slice a L cap,.int .i64 0] 178)).alloc (.cells #[.slice none 0 0,.int .i64 2] 178)).alloc (.cells #[] 5))):=jq ((((Below.refl _ w).alloc jn _).alloc (by simp) _).alloc (by simp;omega) _);clear hpk hrk hal hW1 hpb hrb hrw hv hL hLL e q hA
   go_enter Tryz.func101,Tryz.ntmps101
   go_wp2_with fail
   refine bodyPost_ret (v:=.tuple #[.slice (some ⟨w.heap.size+1+1,0,none⟩) 0 0,.agg #[.slice none 0 0,.int .i64 2]]) (by simp[results,Tryz.results101,go_sem,q0,q1]) rfl ?_;unfold BytesGot;rw[HE.out];exact⟨_,_,_,rfl,.inl rfl,λk hk=>.inr (Nat.le_trans (show w.heap.size<=w.heap.size+1+1 by omega) (Nat.le_of_eq (show w.heap.size+1+1=k by simpa[Mem.blk]using hk))),⟨none,0,0,rfl,λh=>absurd (show(2:Int)=0 from h) (by decide)⟩,HB.out⟩
  ·have d1:decide ((L:Int) <(n:Int))=false:=jf (by omega);have e:bytesS n (bs,0)=(bs.take n,(bs.drop n,0)):=by unfold bytesS;rw[if_pos rfl,if_neg (by rw[<-hLL];exact hlt)]
   have HE:=jq e;obtain⟨a',hsl2,hblk,hlies⟩:=slice_low a L cap n (by omega) hcap;have hhi:=slice_hi8 a L cap n (by omega);have q:=box_set hrk (.slice a' (L-n) (cap-n)) (.int .i64 0);have q0:=q.cell 0;have q1:=q.cell 1
   simp at q0 q1
   have HB:Hid (Below w.heap.size w (((W1.setCell ⟨rb,0,none⟩ (.slice a' (L-n) (cap-n))).setCell ⟨rb,1,none⟩ (.int .i64 0)).drew)):=jq ((hal.setCell hrw _).setCell hrw _).drew;have HLS:=jq hlies;have HBK:=jq hblk;clear hpk hrk hal hW1 hpb hrb hrw hv hL hLL e q hblk hlies hA
   go_enter Tryz.func101,Tryz.ntmps101
   go_wp2_with fail
   have hW1:=HW1.out;have hrb:=HRB.out;have hpb:=HPB.out;rw[<-hW1,<-hrb,<-hpb];clear p1e p0e hW1 hrb hpb
   go_region_law (skip)
   all_goals
    have q0': (((W1.setCell ⟨rb,0,none⟩ (.slice a' (L-n) (cap-n))).setCell ⟨rb,1,none⟩ (.int .i64 0)).drew).cell? ⟨rb,0,none⟩=some (.slice a' (L-n) (cap-n)):=q0;have q1': (((W1.setCell ⟨rb,0,none⟩ (.slice a' (L-n) (cap-n))).setCell ⟨rb,1,none⟩ (.int .i64 0)).drew).cell? ⟨rb,1,none⟩=some (.int .i64 0):=q1
    go_wp2_with fail
    refine bodyPost_ret (v:=.tuple #[.slice a n cap,.agg #[.slice a' (L-n) (cap-n),.int .i64 0]]) (by simp[results,Tryz.results101,go_sem,q0',q1']) rfl ?_;unfold BytesGot;rw[HE.out];have el: (bs.take n).length=n:=by rw[jT,<-HLL.out];omega
    refine⟨a,cap,_,by rw[el],?_,λk hk=>.inl (HA.out k hk),⟨a',L-n,cap-n,rfl,λ_=>⟨?_,by omega,?_,λq hq=>HA.out q (by rw[<-HBK.out];exact hq)⟩⟩,HB.out⟩
    ·rw[List.map_take];exact(HLI.out.later HB.out).take _
    ·rw[List.length_drop,<-HLL.out]
    ·exact(HLS.out w bs HLL.out.symm HLI.out).later HB.out
 ·have e:bytesS n (bs,k)=([],(bs,k)):=if_neg hk;have HE:=jq e;have hk1: (k==0)=false:=by simpa using hk
  have hk2: (k !=0)=true:=by simpa using hk
  have HK:=jq hk;have hae:Below W1.heap.size W1 (W1.alloc (.cells #[] 5)):=(Below.refl _ _).alloc jn _;have hpk2:=hpk.below hae hpk.lt;have hrk2:=hrk.below hae hrk.lt;have pp0:=hpk2.cell 0;have pp1:=hpk2.cell 1;have rr0:=hrk2.cell 0;have rr1:=hrk2.cell 1
  simp at pp0 pp1 rr0 rr1
  have zz0:=hrk2.frozen 0;have zz1:=hrk2.frozen 1;have HRK2:=jq hrk2;have HB:Hid (Below w.heap.size w ((((W1.alloc (.cells #[] 5)).setCell ⟨rb,0,none⟩ (.slice a m cap)).setCell ⟨rb,1,none⟩ (.int .i64 k)).drew)):=jq (((hal.alloc hal.size _).setCell hrw _).setCell hrw _).drew;clear hpk hrk hal hW1 hpb hrb hrw hv e hk hpk2 hrk2 hae
  go_enter Tryz.func101,Tryz.ntmps101
  go_wp2_with fail
  have hW1:=HW1.out;have hrb:=HRB.out;have hpb:=HPB.out;rw[<-hW1,<-hrb,<-hpb];clear p1e p0e hW1 hrb hpb
  go_region_law (skip)
  all_goals
   have q:=box_set HRK2.out (.slice a m cap) (.int .i64 k);have q0:=q.cell 0;have q1:=q.cell 1
   simp at q0 q1
   clear q;have q0': ((((W1.alloc (.cells #[] 5)).setCell ⟨rb,0,none⟩ (.slice a m cap)).setCell ⟨rb,1,none⟩ (.int .i64 k)).drew).cell? ⟨rb,0,none⟩=some (.slice a m cap):=q0;have q1': ((((W1.alloc (.cells #[] 5)).setCell ⟨rb,0,none⟩ (.slice a m cap)).setCell ⟨rb,1,none⟩ (.int .i64 k)).drew).cell? ⟨rb,1,none⟩=some (.int .i64 k):=q1
   go_wp2_with fail
   refine bodyPost_ret (v:=.tuple #[.slice (some ⟨W1.heap.size,0,none⟩) 0 0,.agg #[.slice a m cap,.int .i64 k]]) (by simp[results,Tryz.results101,go_sem,q0',q1']) rfl ?_;unfold BytesGot;rw[HE.out];exact⟨_,_,_,rfl,.inl rfl,λk hk=>.inr (Nat.le_trans HAL.out.size (Nat.le_of_eq (show W1.heap.size=k by simpa[Mem.blk]using hk))),⟨a,m,cap,rfl,λh=>absurd h HK.out⟩,HB.out⟩
end RefD
namespace RefD
open Go.RowKit Go.Deep Mem Crc Full Mani Go.Proofs.YtbfochdoeibofaaGreatDoor.Read Go.Proofs.YtbfochdoeibofaaGreatDoor.Frame
open Store (nv)
theorem bitLen_one:∀n:Fin 128,(1<Lib.bitLen n.val↔1<n.val)/\Lib.bitLen n.val<=7:=by decide +kernel
theorem cond_iff {k x:Nat} (hx:x<128):64<k*7+Lib.bitLen x↔(k=9/\1<x)\/9<k:=by
 obtain⟨h1,h2⟩:=bitLen_one ⟨x,hx⟩;dsimp only at h1 h2
 omega
theorem pow_step (k:Nat):2^(7*(k+1))=2^(7*k)*128:=by rw[show 7*(k+1)=7*k+7 by omega,Nat.pow_add]
theorem pow_small {k:Nat} (h:k<=9):2^(7*k) <18446744073709551616:=by
 have:2^(7*k)<=2^63:=Nat.pow_le_pow_right (by decide) (by omega)
 omega
theorem rnum_any {B:Nat} (v:Value) (s:St) (most:Nat) (w:World) (h:RV B w s v) (_:most<18446744073709551616) (hl:s.1.length<=4000000):
  Calls Tryz.prog 100 #[v,.int .u64 (most:Int)] w λe w'=>∃v',e=.returned (.tuple #[.int .u64 ((numS most s).1:Int),v'])/\RV B w' (numS most s).2 v'/\Below w.heap.size w w':=by
 obtain⟨a,n,cap,rfl,hv⟩:=h;obtain⟨bs,k0⟩:=s;dsimp only at hv hl⊢
 by_cases hk0:k0=0
 ·subst hk0;obtain⟨rfl,hcap,hL,hA⟩:=hv rfl;have HA:=jq hA;obtain⟨L,hLL⟩:=jl bs.length;rw[<-hLL]at hcap hl⊢;obtain⟨res,hres⟩:=jl (numG most 0 0 bs);have hS:numS most (bs,0)=(res.1,(bs.drop res.2.1,res.2.2)):=by unfold numS;rw[if_pos rfl,hres]
  rw[hS];have HRES:=jq hres;have HLL:=jq hLL;have HLI:=jq hL;clear hLL hres hv hL hS hA;obtain⟨W1,hW1⟩:=jl ((w.alloc (.cells #[.slice a L cap,.int .i64 0] 178)).alloc (.cells #[.slice none 0 0,.int .i64 0] 178));obtain⟨pb,hpb⟩:=jl w.heap.size;obtain⟨rb,hrb⟩:=jl (w.heap.size+1)
  have hpk:Blk W1 pb 178 #[.slice a L cap,.int .i64 0]:=by
   rw[hW1,hpb];exact(Blk.new w _ _).below ((Below.refl _ _).alloc jn _) (by simp)
  have hrk:Blk W1 rb 178 #[.slice none 0 0,.int .i64 0]:=by
   rw[hW1,hrb];have h:=Blk.new (w.alloc (.cells #[.slice a L cap,.int .i64 0] 178)) 178 #[.slice none 0 0,.int .i64 0]
   simpa using h
  have hal:Below w.heap.size w W1:=by rw[hW1];exact((Below.refl _ w).alloc jn _).alloc (by simp) _
  have p0:=hpk.cell 0;have p1:=hpk.cell 1
  simp at p0 p1
  have z0:=hrk.frozen 0;have z1:=hrk.frozen 1;have r0:=hrk.cell 0;have r1:=hrk.cell 1
  simp at r0 r1
  have HRK:=jq hrk;have HAL:=jq hal;have HW1:=jq hW1;have HPB:=jq hpb;have HRB:=jq hrb;have hrw:w.heap.size<=rb:=by omega
  have HEND:Hid (∀(x y:Value),Below w.heap.size w ((W1.setCell ⟨rb,0,none⟩ x).setCell ⟨rb,1,none⟩ y)):=jq (λx y=>(hal.setCell hrw _).setCell hrw _);have p1e: ((w.alloc (.cells #[.slice a L cap,.int .i64 0] 178)).alloc (.cells #[.slice none 0 0,.int .i64 0] 178)).cell? ⟨w.heap.size,1,none⟩=some (.int .i64 0):=by rw[<-hW1,<-hpb];exact p1
  have p0e: ((w.alloc (.cells #[.slice a L cap,.int .i64 0] 178)).alloc (.cells #[.slice none 0 0,.int .i64 0] 178)).cell? ⟨w.heap.size,0,none⟩=some (.slice a L cap):=by rw[<-hW1,<-hpb];exact p0
  clear hpk hrk hal hW1 hpb hrb hrw
  go_enter Tryz.func100,Tryz.ntmps100
  go_wp2_with fail
  have hW1:=HW1.out;have hrb:=HRB.out;have hpb:=HPB.out;rw[<-hW1,<-hrb,<-hpb];clear p0e p1e hW1 hrb hpb
  go_loopw[6,7,17] (λn sc i wr=>∃(k N S:Nat),k<=L/\n=.int .u64 (N:Int)/\sc=.int .u64 (S:Int)/\i=.int .i64 (k:Int)/\Hid (wr=W1)/\Hid (N<2^(7*k))/\N<18446744073709551616/\S<18446744073709551616/\Hid (S=2^(7*k)%18446744073709551616)/\Hid (numG most k N (bs.drop k)=res)) (λ_ _ i _=>L-(intOf i).toNat)
  case atStart=>exact⟨0,0,1,Nat.zero_le _,rfl,rfl,rfl,jq rfl,jq (by decide),by decide,by decide,jq (by decide),jq HRES.out.symm⟩
  case round=>
   obtain⟨k,N,S,hk,rfl,rfl,rfl,hw,hN,hN2,hS2,hS,hG⟩:=hrel;obtain rfl:wr=W1:=hw.out
   by_cases hlt:k<L
   ·have hjd:decide ((k:Int) <(L:Int))=true:=jd (by omega);obtain⟨c,hc⟩:∃c,bs[k]? =some c:=⟨bs[k]'(by rw[<-HLL.out];exact hlt),jg _⟩;obtain⟨ga,oa,rfl,hca⟩:=lies_get (HLI.out.later HAL.out) hc
    have hstep:bs.drop k=c ::bs.drop (k+1):=by
     rw[List.drop_eq_getElem_cons (jS.1 hc).1,(jS.1 hc).2]
    have hg:=hG.out;rw[hstep]at hg;unfold numG at hg;obtain⟨x,hx⟩:=jl c.toNat;have hx256:x<256:=by rw[hx];exact c.toNat_lt
    rw[<-hx]at hg;have hcv:bv c=.int .u8 (x:Int):=by rw[hx];rfl
    rw[hcv]at hca;obtain⟨xm,hxe⟩:=jl (x%128);have hxm:xm<128:=by omega
    have hns:=λh=>num_step (x:=x) (i:=k) hN.out h
    rw[<-hxe]at hns hg;have hci:=cond_iff (k:=k) hxm;have hxI: ((x:Int)%128)=(xm:Int):=by omega
    have HXE:=jq hxe;have HNS:=jq hns;have HG:=jq hg;have HCI:=jq hci;clear hg hstep hc hx hcv hw hG hns hxe hci
    by_cases hA: ((k=9/\1<xm)\/9<k)\/(0<k/\x=0)
    ·have hr0:res=(0,0,3):=by
      have:=HG.out;rw[if_pos (hA.imp HCI.out.2 id)]at this;exact this.symm
     have HR0:=jq hr0;clear hr0
     by_cases h9:k=9
     ·have d9: ((k:Int)==9)=true:=by simp;omega
      have d9': ((k:Int) !=9)=false:=by simp;omega
      by_cases hx1:1<xm
      ·have dx:decide ((1:Int) <(xm:Int))=true:=jd (by omega);clear hA h9;have q:=box_set HRK.out (.slice none 0 0) (.int .i64 3);have q0:=q.cell 0;have q1:=q.cell 1
       simp at q0 q1
       have HE:=jq (HEND.out (.slice none 0 0) (.int .i64 3));clear q
       go_wp2_with fail
       refine bodyPost_ret (v:=.tuple #[.int .u64 0,.agg #[.slice none 0 0,.int .i64 3]]) (by simp[results,Tryz.results100,go_sem,q0,q1]) rfl ?_;rw[HR0.out];exact⟨_,rfl,⟨none,0,0,rfl,λh=>absurd (show(3:Int)=0 from h) (by decide)⟩,HE.out⟩
      ·have dx:decide ((1:Int) <(xm:Int))=false:=jf (by omega);have dg:decide ((9:Int) <(k:Int))=false:=jf (by omega);have dk:decide (0<k)=true:=jd (by omega);have dz: ((x:Int)==0)=true:=by simp;omega
       clear hA h9;have q:=box_set HRK.out (.slice none 0 0) (.int .i64 3);have q0:=q.cell 0;have q1:=q.cell 1
       simp at q0 q1
       have HE:=jq (HEND.out (.slice none 0 0) (.int .i64 3));clear q
       go_wp2_with fail
       refine bodyPost_ret (v:=.tuple #[.int .u64 0,.agg #[.slice none 0 0,.int .i64 3]]) (by simp[results,Tryz.results100,go_sem,q0,q1]) rfl ?_;rw[HR0.out];exact⟨_,rfl,⟨none,0,0,rfl,λh=>absurd (show(3:Int)=0 from h) (by decide)⟩,HE.out⟩
     ·have d9: ((k:Int)==9)=false:=by simp;omega
      by_cases hg9:9<k
      ·have dg:decide ((9:Int) <(k:Int))=true:=jd (by omega);clear hA h9;have q:=box_set HRK.out (.slice none 0 0) (.int .i64 3);have q0:=q.cell 0;have q1:=q.cell 1
       simp at q0 q1
       have HE:=jq (HEND.out (.slice none 0 0) (.int .i64 3));clear q
       go_wp2_with fail
       refine bodyPost_ret (v:=.tuple #[.int .u64 0,.agg #[.slice none 0 0,.int .i64 3]]) (by simp[results,Tryz.results100,go_sem,q0,q1]) rfl ?_;rw[HR0.out];exact⟨_,rfl,⟨none,0,0,rfl,λh=>absurd (show(3:Int)=0 from h) (by decide)⟩,HE.out⟩
      ·have dg:decide ((9:Int) <(k:Int))=false:=jf (by omega);have dk:decide (0<k)=true:=jd (by omega);have dz: ((x:Int)==0)=true:=by simp;omega
       clear hA h9;have q:=box_set HRK.out (.slice none 0 0) (.int .i64 3);have q0:=q.cell 0;have q1:=q.cell 1
       simp at q0 q1
       have HE:=jq (HEND.out (.slice none 0 0) (.int .i64 3));clear q
       go_wp2_with fail
       refine bodyPost_ret (v:=.tuple #[.int .u64 0,.agg #[.slice none 0 0,.int .i64 3]]) (by simp[results,Tryz.results100,go_sem,q0,q1]) rfl ?_;rw[HR0.out];exact⟨_,rfl,⟨none,0,0,rfl,λh=>absurd (show(3:Int)=0 from h) (by decide)⟩,HE.out⟩
    ·have hg2:=HG.out;rw[if_neg (λh=>hA (h.imp HCI.out.1 id))]at hg2
     obtain⟨s1,s2,s3,s4⟩:=HNS.out (by
      have:¬(64<k*7+Lib.bitLen xm):=λh=>hA (.inl (HCI.out.1 h))
      omega)
     obtain⟨sh,hsh⟩:=jl (xm*2^(7*k));rw[<-hsh]at s1 s2 s3 hg2;have hSe:S=2^(7*k):=by rw[hS.out];exact Nat.mod_eq_of_lt (pow_small s4)
     obtain⟨N2,hN2e⟩:=jl (N+sh);rw[<-hN2e]at s2 s3 hg2;have hmu: (xm:Int)*(S:Int)=(sh:Int):=by rw[hsh,hSe];push_cast;rfl
     have hw1:IntKind.u64.wrap ((xm:Int)*(S:Int))=(sh:Int):=by rw[hmu,IntKind.wrap_u64];omega
     have hw2:IntKind.u64.wrap ((N:Int)+(sh:Int))=(N2:Int):=by rw[IntKind.wrap_u64];omega
     obtain⟨S',hS'⟩:∃S',S'=S*128%18446744073709551616:=⟨_,rfl⟩;have hw3:IntKind.u64.wrap ((S:Int)*128)=(S':Int):=by rw[IntKind.wrap_u64];omega
     have hSn:Hid (S'=2^(7*(k+1))%18446744073709551616):=jq (by rw[hS',hSe,pow_step]);have hSl:S'<18446744073709551616:=by omega
     have HG2:=jq hg2;have dg:decide ((9:Int) <(k:Int))=false:=jf (by omega);have s3':=s3;clear hg2 hsh hSe hS' hmu hN2e
     by_cases h9:k=9
     ·have d9: ((k:Int)==9)=true:=by simp;omega
      have dx:decide ((1:Int) <(xm:Int))=false:=jf (by omega);have dk:decide (0<k)=true:=jd (by omega);have dz: ((x:Int)==0)=false:=by simp;omega
      clear h9 hA
      by_cases hC:127<x
      ·have hd2:decide ((x:Int) <128)=false:=jf (by omega);have hg3:=HG2.out;rw[if_pos hC]at hg3;have HG3:=jq hg3;clear hg3 HG2 hC
       go_wp2_with fail
       exact⟨⟨k+1,N2,S',by omega,by simp,by simp,by simp,jq (by trivial),jq s3,s2,hSl,hSn,HG3⟩,by simp[intOf];omega⟩
      ·have hd2:decide ((x:Int) <128)=true:=jd (by omega);have hg3:=HG2.out;rw[if_neg hC]at hg3
       by_cases hM:most<N2
       ·rw[if_pos hM]at hg3;have HRR:=jq hg3.symm;have hd3:decide ((most:Int) <(N2:Int))=true:=jd (by omega);clear hg3 HG2 hC;have q:=box_set HRK.out (.slice none 0 0) (.int .i64 9);have q0:=q.cell 0;have q1:=q.cell 1
        simp at q0 q1
        have HE:=jq (HEND.out (.slice none 0 0) (.int .i64 9));clear q
        go_wp2_with fail
        refine bodyPost_ret (v:=.tuple #[.int .u64 0,.agg #[.slice none 0 0,.int .i64 9]]) (by simp[results,Tryz.results100,go_sem,q0,q1]) rfl ?_;rw[HRR.out];exact⟨_,rfl,⟨none,0,0,rfl,λh=>absurd (show(9:Int)=0 from h) (by decide)⟩,HE.out⟩
       ·rw[if_neg hM]at hg3;have HRR:=jq hg3.symm;have hd3:decide ((most:Int) <(N2:Int))=false:=jf (by omega);obtain⟨a',hsl2,hblk,hlies⟩:=slice_low (some ⟨ga,oa,none⟩) L cap (k+1) (by omega) hcap;have hsc: (((k+1:Nat):Int))=(k:Int)+1:=by push_cast;rfl
        rw[hsc]at hsl2;have q:=box_set HRK.out (.slice a' (L-(k+1)) (cap-(k+1))) (.int .i64 0);have q0:=q.cell 0;have q1:=q.cell 1
        simp at q0 q1
        have HE:=jq ((HEND.out (.slice a' (L-(k+1)) (cap-(k+1))) (.int .i64 0)).drew);have HLS:=jq hlies;have HBK:=jq hblk;clear q hg3 HG2 hC hblk hlies hsc
        go_wp2_with fail
        have hwk:IntKind.i64.wrap ((k:Int)+1)=(k:Int)+1:=IntWalk.i64_in _ (by omega)
        go_region_law (skip)
        have q0': (((wr.setCell ⟨rb,0,none⟩ (.slice a' (L-(k+1)) (cap-(k+1)))).setCell ⟨rb,1,none⟩ (.int .i64 0)).drew).cell? ⟨rb,0,none⟩=some (.slice a' (L-(k+1)) (cap-(k+1))):=q0;have q1': (((wr.setCell ⟨rb,0,none⟩ (.slice a' (L-(k+1)) (cap-(k+1)))).setCell ⟨rb,1,none⟩ (.int .i64 0)).drew).cell? ⟨rb,1,none⟩=some (.int .i64 0):=q1
        go_wp2_with fail
        refine bodyPost_ret (v:=.tuple #[.int .u64 (N2:Int),.agg #[.slice a' (L-(k+1)) (cap-(k+1)),.int .i64 0]]) (by simp[results,Tryz.results100,go_sem,q0',q1']) rfl ?_;rw[HRR.out];refine⟨_,rfl,⟨a',L-(k+1),cap-(k+1),rfl,λ_=>⟨?_,by omega,?_,λq hq=>HA.out q (by rw[<-HBK.out];exact hq)⟩⟩,HE.out⟩
        ·rw[List.length_drop,<-HLL.out]
        ·exact(HLS.out w bs HLL.out.symm HLI.out).later HE.out
     ·have d9: ((k:Int)==9)=false:=by simp;omega
      by_cases hk0:0<k
      ·have dk:decide (0<k)=true:=jd hk0;have dz: ((x:Int)==0)=false:=by simp;omega
       clear h9 hA hk0
       by_cases hC:127<x
       ·have hd2:decide ((x:Int) <128)=false:=jf (by omega);have hg3:=HG2.out;rw[if_pos hC]at hg3;have HG3:=jq hg3;clear hg3 HG2 hC
        go_wp2_with fail
        exact⟨⟨k+1,N2,S',by omega,by simp,by simp,by simp,jq (by trivial),jq s3,s2,hSl,hSn,HG3⟩,by simp[intOf];omega⟩
       ·have hd2:decide ((x:Int) <128)=true:=jd (by omega);have hg3:=HG2.out;rw[if_neg hC]at hg3
        by_cases hM:most<N2
        ·rw[if_pos hM]at hg3;have HRR:=jq hg3.symm;have hd3:decide ((most:Int) <(N2:Int))=true:=jd (by omega);clear hg3 HG2 hC;have q:=box_set HRK.out (.slice none 0 0) (.int .i64 9);have q0:=q.cell 0;have q1:=q.cell 1
         simp at q0 q1
         have HE:=jq (HEND.out (.slice none 0 0) (.int .i64 9));clear q
         go_wp2_with fail
         refine bodyPost_ret (v:=.tuple #[.int .u64 0,.agg #[.slice none 0 0,.int .i64 9]]) (by simp[results,Tryz.results100,go_sem,q0,q1]) rfl ?_;rw[HRR.out];exact⟨_,rfl,⟨none,0,0,rfl,λh=>absurd (show(9:Int)=0 from h) (by decide)⟩,HE.out⟩
        ·rw[if_neg hM]at hg3;have HRR:=jq hg3.symm;have hd3:decide ((most:Int) <(N2:Int))=false:=jf (by omega);obtain⟨a',hsl2,hblk,hlies⟩:=slice_low (some ⟨ga,oa,none⟩) L cap (k+1) (by omega) hcap;have hsc: (((k+1:Nat):Int))=(k:Int)+1:=by push_cast;rfl
         rw[hsc]at hsl2;have q:=box_set HRK.out (.slice a' (L-(k+1)) (cap-(k+1))) (.int .i64 0);have q0:=q.cell 0;have q1:=q.cell 1
         simp at q0 q1
         have HE:=jq ((HEND.out (.slice a' (L-(k+1)) (cap-(k+1))) (.int .i64 0)).drew);have HLS:=jq hlies;have HBK:=jq hblk;clear q hg3 HG2 hC hblk hlies hsc
         go_wp2_with fail
         have hwk:IntKind.i64.wrap ((k:Int)+1)=(k:Int)+1:=IntWalk.i64_in _ (by omega)
         go_region_law (skip)
         have q0': (((wr.setCell ⟨rb,0,none⟩ (.slice a' (L-(k+1)) (cap-(k+1)))).setCell ⟨rb,1,none⟩ (.int .i64 0)).drew).cell? ⟨rb,0,none⟩=some (.slice a' (L-(k+1)) (cap-(k+1))):=q0;have q1': (((wr.setCell ⟨rb,0,none⟩ (.slice a' (L-(k+1)) (cap-(k+1)))).setCell ⟨rb,1,none⟩ (.int .i64 0)).drew).cell? ⟨rb,1,none⟩=some (.int .i64 0):=q1
         go_wp2_with fail
         refine bodyPost_ret (v:=.tuple #[.int .u64 (N2:Int),.agg #[.slice a' (L-(k+1)) (cap-(k+1)),.int .i64 0]]) (by simp[results,Tryz.results100,go_sem,q0',q1']) rfl ?_;rw[HRR.out];refine⟨_,rfl,⟨a',L-(k+1),cap-(k+1),rfl,λ_=>⟨?_,by omega,?_,λq hq=>HA.out q (by rw[<-HBK.out];exact hq)⟩⟩,HE.out⟩
         ·rw[List.length_drop,<-HLL.out]
         ·exact(HLS.out w bs HLL.out.symm HLI.out).later HE.out
      ·have dk:decide (0<k)=false:=jf hk0;clear h9 hA hk0
       by_cases hC:127<x
       ·have hd2:decide ((x:Int) <128)=false:=jf (by omega);have hg3:=HG2.out;rw[if_pos hC]at hg3;have HG3:=jq hg3;clear hg3 HG2 hC
        go_wp2_with fail
        exact⟨⟨k+1,N2,S',by omega,by simp,by simp,by simp,jq (by trivial),jq s3,s2,hSl,hSn,HG3⟩,by simp[intOf];omega⟩
       ·have hd2:decide ((x:Int) <128)=true:=jd (by omega);have hg3:=HG2.out;rw[if_neg hC]at hg3
        by_cases hM:most<N2
        ·rw[if_pos hM]at hg3;have HRR:=jq hg3.symm;have hd3:decide ((most:Int) <(N2:Int))=true:=jd (by omega);clear hg3 HG2 hC;have q:=box_set HRK.out (.slice none 0 0) (.int .i64 9);have q0:=q.cell 0;have q1:=q.cell 1
         simp at q0 q1
         have HE:=jq (HEND.out (.slice none 0 0) (.int .i64 9));clear q
         go_wp2_with fail
         refine bodyPost_ret (v:=.tuple #[.int .u64 0,.agg #[.slice none 0 0,.int .i64 9]]) (by simp[results,Tryz.results100,go_sem,q0,q1]) rfl ?_;rw[HRR.out];exact⟨_,rfl,⟨none,0,0,rfl,λh=>absurd (show(9:Int)=0 from h) (by decide)⟩,HE.out⟩
        ·rw[if_neg hM]at hg3;have HRR:=jq hg3.symm;have hd3:decide ((most:Int) <(N2:Int))=false:=jf (by omega);obtain⟨a',hsl2,hblk,hlies⟩:=slice_low (some ⟨ga,oa,none⟩) L cap (k+1) (by omega) hcap;have hsc: (((k+1:Nat):Int))=(k:Int)+1:=by push_cast;rfl
         rw[hsc]at hsl2;have q:=box_set HRK.out (.slice a' (L-(k+1)) (cap-(k+1))) (.int .i64 0);have q0:=q.cell 0;have q1:=q.cell 1
         simp at q0 q1
         have HE:=jq ((HEND.out (.slice a' (L-(k+1)) (cap-(k+1))) (.int .i64 0)).drew);have HLS:=jq hlies;have HBK:=jq hblk;clear q hg3 HG2 hC hblk hlies hsc
         go_wp2_with fail
         have hwk:IntKind.i64.wrap ((k:Int)+1)=(k:Int)+1:=IntWalk.i64_in _ (by omega)
         go_region_law (skip)
         have q0': (((wr.setCell ⟨rb,0,none⟩ (.slice a' (L-(k+1)) (cap-(k+1)))).setCell ⟨rb,1,none⟩ (.int .i64 0)).drew).cell? ⟨rb,0,none⟩=some (.slice a' (L-(k+1)) (cap-(k+1))):=q0;have q1': (((wr.setCell ⟨rb,0,none⟩ (.slice a' (L-(k+1)) (cap-(k+1)))).setCell ⟨rb,1,none⟩ (.int .i64 0)).drew).cell? ⟨rb,1,none⟩=some (.int .i64 0):=q1
         go_wp2_with fail
         refine bodyPost_ret (v:=.tuple #[.int .u64 (N2:Int),.agg #[.slice a' (L-(k+1)) (cap-(k+1)),.int .i64 0]]) (by simp[results,Tryz.results100,go_sem,q0',q1']) rfl ?_;rw[HRR.out];refine⟨_,rfl,⟨a',L-(k+1),cap-(k+1),rfl,λ_=>⟨?_,by omega,?_,λq hq=>HA.out q (by rw[<-HBK.out];exact hq)⟩⟩,HE.out⟩
         ·rw[List.length_drop,<-HLL.out]
         ·exact(HLS.out w bs HLL.out.symm HLI.out).later HE.out
   ·have hjd:decide ((k:Int) <(L:Int))=false:=jf (by omega);have hg:=hG.out;rw[List.drop_of_length_le (by rw[<-HLL.out];omega)]at hg;have HRR:=jq (show res=(0,0,2)from hg.symm);clear hg hG hw;have q:=box_set HRK.out (.slice none 0 0) (.int .i64 2);have q0:=q.cell 0;have q1:=q.cell 1
    simp at q0 q1
    have HE:=jq (HEND.out (.slice none 0 0) (.int .i64 2));clear q
    go_wp2_with fail
    refine bodyPost_ret (v:=.tuple #[.int .u64 0,.agg #[.slice none 0 0,.int .i64 2]]) (by simp[results,Tryz.results100,go_sem,q0,q1]) rfl ?_;rw[HRR.out];exact⟨_,rfl,⟨none,0,0,rfl,λh=>absurd (show(2:Int)=0 from h) (by decide)⟩,HE.out⟩
 ·have hS:numS most (bs,k0)=(0,(bs,k0)):=if_neg hk0;rw[hS];refine(rnum_bad a n cap k0 hk0 most w).mono ?_;rintro e w' ⟨rfl,hB⟩;exact⟨_,rfl,⟨a,n,cap,rfl,λh=>absurd h hk0⟩,hB⟩
end RefD
namespace RefD
open Go.RowKit Go.Deep Mem Crc Mani Full Go.Proofs.YtbfochdoeibofaaGreatDoor.Read
def RdV (B:Nat) (w:World) (r:Nat) (s:St):Prop:=∃(a:Option Addr) (n c:Nat),Blk w r 178 #[.slice a n c,.int .i64 s.2]/\(s.2=0->n=s.1.length/\n<=c/\Lies w a (s.1.map bv)/\∀k,Mem.blk a=some k->k<B)/\B<=r
theorem RdV.rv {B:Nat} {w:World} {r:Nat} {s:St} (h:RdV B w r s):∃(a:Option Addr) (n c:Nat),Blk w r 178 #[.slice a n c,.int .i64 s.2]/\RV B w s (.agg #[.slice a n c,.int .i64 s.2]):=by
 obtain⟨a,n,c,h1,h2,_⟩:=h;exact⟨a,n,c,h1,a,n,c,rfl,h2⟩
theorem RdV.blk {B:Nat} {w:World} {r:Nat} {s:St} (h:RdV B w r s):∃cs,Blk w r 178 cs/\B<=r:=by
 obtain⟨a,n,c,h1,_,h2⟩:=h;exact⟨_,h1,h2⟩
theorem RdV.upon {B:Nat} {X:Nat->Prop} {w w':World} {r:Nat} {s:St} (h:RdV B w r s) (hu:Upon X w w') (hr:¬X r) (hX:∀k,X k->B<=k):RdV B w' r s:=by
 obtain⟨a,n,c,h1,h2,h3⟩:=h;exact⟨a,n,c,h1.upon hu hr,λh=>⟨(h2 h).1,(h2 h).2.1,(h2 h).2.2.1.upon hu (λk hk hx=>by have:=(h2 h).2.2.2 k hk;have:=hX k hx;omega),(h2 h).2.2.2⟩,h3⟩
structure RS (w:World) (q rd ver next:Nat) (u:Value) (l:List FR) (s:St) (W:World):Prop where
 below:Below w.heap.size w W
 man:Blk W q 34 #[.int .u64 (ver:Int),.int .u32 (next:Int),u]
 row:W.ownsRow w.heap.size 96 4 u l.length (flatF l)
 blocks:∀x∈l,NewRow w.heap.size W x
 rd:RdV w.heap.size W rd s
 gq:w.heap.size<=q
variable {w W W':World} {q rd ver next:Nat} {u u':Value} {l l':List FR} {s s':St}
theorem RS.upon (h:RS w q rd ver next u l s W) {X:Nat->Prop} (hu:Upon X W W') (hX:∀k,X k->w.heap.size<=k) (h2:¬X q) (h3:∀k,u.ownBlock=some k->¬X k) (h4:∀x∈l,∀k,(Value.slice x.a x.f.blocks.length x.c).ownBlock=some k->¬X k) (h5:¬X rd):RS w q rd ver next u l s W':=
 ⟨h.below.trans (hu.below h.below.size hX),h.man.upon hu h2,own_upon h.row hu h3,λx hx=>own_upon (h.blocks x hx) hu (h4 x hx),h.rd.upon hu h5 hX,h.gq⟩
theorem RS.later (h:RS w q rd ver next u l s W) (hB:Below W.heap.size W W'):RS w q rd ver next u l s W':=
 h.upon (X:=λ_=>False) (Upon.of_below hB) (λ_ hf=>hf.elim) id (λ_ _=>id) (λ_ _ _ _=>id) id
theorem RS.readU (h:RS w q rd ver next u l s W) (hu:Upon (λk=>k=rd) W W') (hr:RdV w.heap.size W' rd s'):RS w q rd ver next u l s' W':=by
 obtain⟨cs,hb,hg⟩:=h.rd.blk;have hX:∀k,k=rd->w.heap.size<=k:=λk e=>by rw[e];exact hg
 exact⟨h.below.trans (hu.below h.below.size hX),h.man.upon hu (h.man.ne hb (by decide)),own_upon h.row hu (λk hk e=>own_ne_blk h.row hb (by decide) (e▸hk)),λx hx=>own_upon (h.blocks x hx) hu (λk hk e=>own_ne_blk (h.blocks x hx) hb (by decide) (e▸hk)),hr,h.gq⟩
theorem RdV.put {B:Nat} {rd:Nat} {a:Option Addr} {n c:Nat} (h:RdV B W rd s) (hv:RV B W s' (.agg #[.slice a n c,.int .i64 s'.2])):RdV B ((W.setCell ⟨rd,0,none⟩ (.slice a n c)).setCell ⟨rd,1,none⟩ (.int .i64 s'.2)) rd s':=by
 obtain⟨a0,n0,c0,h1,h2,h3⟩:=h;obtain⟨a1,n1,c1,e,hv⟩:=hv;cases e;refine⟨a,n,c,(h1.set 0 _).set 1 _,λh0=>?_,h3⟩;obtain⟨e1,e2,e3,e4⟩:=hv h0;have hu:Upon (λk=>k=rd) W ((W.setCell ⟨rd,0,none⟩ (.slice a n c)).setCell ⟨rd,1,none⟩ (.int .i64 s'.2)):=((Upon.refl (λk=>k=rd) W).set (p:=⟨rd,0,none⟩) (.inl rfl) _).set (p:=⟨rd,1,none⟩) (.inl rfl) _;exact⟨e1,e2,e3.upon hu (λk hk e=>by have:=e4 k hk;omega),e4⟩
theorem upon_put (rd:Nat) (x y:Value):Upon (λk=>k=rd) W ((W.setCell ⟨rd,0,none⟩ x).setCell ⟨rd,1,none⟩ y):=((Upon.refl (λk=>k=rd) W).set (p:=⟨rd,0,none⟩) (.inl rfl) _).set (p:=⟨rd,1,none⟩) (.inl rfl) _
theorem RS.put {a:Option Addr} {n c:Nat} (h:RS w q rd ver next u l s W) (hv:RV w.heap.size W s' (.agg #[.slice a n c,.int .i64 s'.2])):RS w q rd ver next u l s' ((W.setCell ⟨rd,0,none⟩ (.slice a n c)).setCell ⟨rd,1,none⟩ (.int .i64 s'.2)):=
 h.readU (upon_put rd _ _) (h.rd.put hv)
theorem RS.rowed (h:RS w q rd ver next u l s W) (hg:W.grownBy W' u.ownBlock) (hrow:W'.ownsRow w.heap.size 96 4 u' l'.length (flatF l')) (hb:∀x∈l',x∈l\/NewRow w.heap.size W x):RS w q rd ver next u' l' s (W'.setCell ⟨q,2,none⟩ u'):=by
 obtain⟨cs,hrb,hrg⟩:=h.rd.blk;have hu:Upon (λk=>u.ownBlock=some k) W W':=Upon.of_grown hg (λg hg=>.inl hg);have hX:∀k,u.ownBlock=some k->w.heap.size<=k:=λk hk=>(h.row.lt k hk).1
 have hman:=h.man.upon hu (own_ne_blk h.row h.man (by decide))
 have hbl:∀x∈l',NewRow w.heap.size W' x:=λx hx=>by
  have hn:NewRow w.heap.size W x:=(hb x hx).elim (h.blocks x) id;exact own_upon hn hu (λk hk e=>own_ne_own h.row hn (by decide) e hk)
 have hrd:=h.rd.upon hu (own_ne_blk h.row hrb (by decide)) hX;have hu2:Upon (λk=>k=q) W' (W'.setCell ⟨q,2,none⟩ u'):=(Upon.refl (λk=>k=q) W').set (p:=⟨q,2,none⟩) (.inl rfl) _;obtain⟨cs2,hrb2,_⟩:=hrd.blk;have hBW:=h.below.trans (hu.below h.below.size hX);exact⟨hBW.setCell h.gq _,hman.set 2 _,own_far hrow (own_ne_blk hrow hman (by decide)) _,λx hx=>own_far (hbl x hx) (own_ne_blk (hbl x hx) hman (by decide)) _,hrd.upon hu2 (hrb2.ne hman (by decide)) (λk e=>by rw[e];exact h.gq),h.gq⟩
theorem RS.files (h:RS w q rd ver next u l s W):∃a c,u=.slice a l.length c/\FilesIn W a l/\(∀b,Mem.blk a=some b->w.heap.size<=b/\b<W.heap.size)/\∀x∈l,∀b,Mem.blk x.a=some b->w.heap.size<=b/\b<W.heap.size:=by
 obtain⟨a,c,rfl,_,hL,hg,_⟩:=own_shape h.row;refine⟨a,c,rfl,⟨hL,λx hx=>?_⟩,hg,λx hx b hb=>?_⟩
 ·obtain⟨a2,c2,e,hc,hL2,_,_⟩:=own_shape (h.blocks x hx);cases e;exact⟨hL2,hc⟩
 ·obtain⟨a2,c2,e,hc,hL2,hg2,_⟩:=own_shape (h.blocks x hx);cases e;exact hg2 b hb
structure BS (w:World) (q rd ver next:Nat) (u:Value) (l:List FR) (fb:Nat) (nm:Value) (id sz:Nat) (bu:Value) (acc:List Nat) (s:St) (W:World):Prop where
 rs:RS w q rd ver next u l s W
 box:Blk W fb 96 #[nm,.int .u32 (id:Int),.int .i64 (sz:Int),bu]
 bl:W.ownsRow fb 3 1 bu acc.length (acc.map iv)
 gf:w.heap.size<=fb
 lu:∀k,u.ownBlock=some k->k<fb
 lx:∀x∈l,∀k,(Value.slice x.a x.f.blocks.length x.c).ownBlock=some k->k<fb
variable {fb id sz id' sz':Nat} {nm nm' bu bu':Value} {acc acc':List Nat}
theorem BS.start (h:RS w q rd ver next u l s W) (nm:Value) (id sz:Nat):BS w q rd ver next u l W.heap.size nm id sz (.slice none 0 0) [] s (W.alloc (.cells #[nm,.int .u32 (id:Int),.int .i64 (sz:Int),.slice none 0 0] 96)):=
 ⟨h.later ((Below.refl _ W).alloc jn _),Blk.new W _ _,World.ownsRow_nil _ _ _ _,h.below.size,λk hk=>(h.row.lt k hk).2,λx hx k hk=>(World.ownsRow.lt (h.blocks x hx) k hk).2⟩
theorem BS.upon (h:BS w q rd ver next u l fb nm id sz bu acc s W) {X:Nat->Prop} (hu:Upon X W W') (hX:∀k,X k->fb<k\/k=fb) (h2:¬X q) (h5:¬X rd):RS w q rd ver next u l s W':=
 h.rs.upon hu (λk hk=>by have:=h.gf;have:=hX k hk;omega) h2 (λk hk hx=>by have:=h.lu k hk;have:=hX k hx;omega) (λx hx k hk hxk=>by have:=h.lx x hx k hk;have:=hX k hxk;omega) h5
theorem BS.readU (h:BS w q rd ver next u l fb nm id sz bu acc s W) (hu:Upon (λk=>k=rd) W W') (hr:RdV w.heap.size W' rd s'):BS w q rd ver next u l fb nm id sz bu acc s' W':=by
 obtain⟨cs,hb,hg⟩:=h.rs.rd.blk;exact⟨h.rs.readU hu hr,h.box.upon hu (h.box.ne hb (by decide)),own_upon h.bl hu (λk hk e=>own_ne_blk h.bl hb (by decide) (e▸hk)),h.gf,h.lu,h.lx⟩
theorem BS.put {a:Option Addr} {n c:Nat} (h:BS w q rd ver next u l fb nm id sz bu acc s W) (hv:RV w.heap.size W s' (.agg #[.slice a n c,.int .i64 s'.2])):BS w q rd ver next u l fb nm id sz bu acc s' ((W.setCell ⟨rd,0,none⟩ (.slice a n c)).setCell ⟨rd,1,none⟩ (.int .i64 s'.2)):=
 h.readU (upon_put rd _ _) (h.rs.rd.put hv)
theorem BS.later (h:BS w q rd ver next u l fb nm id sz bu acc s W) (hB:Below W.heap.size W W'):BS w q rd ver next u l fb nm id sz bu acc s W':=
 ⟨h.rs.later hB,h.box.below hB h.box.lt,own_later h.bl hB,h.gf,h.lu,h.lx⟩
theorem BS.set (h:BS w q rd ver next u l fb nm id sz bu acc s W) (i:Nat) (v:Value) (hb:Blk (W.setCell ⟨fb,i,none⟩ v) fb 96 #[nm',.int .u32 (id':Int),.int .i64 (sz':Int),bu']) (hr:W.ownsRow fb 3 1 bu' acc'.length (acc'.map iv)):BS w q rd ver next u l fb nm' id' sz' bu' acc' s (W.setCell ⟨fb,i,none⟩ v):=by
 obtain⟨cs,hrb,hg⟩:=h.rs.rd.blk;have hu:Upon (λk=>k=fb) W (W.setCell ⟨fb,i,none⟩ v):=(Upon.refl (λk=>k=fb) W).set (p:=⟨fb,i,none⟩) (.inl rfl) _;exact⟨h.upon hu (λk hk=>.inr hk) (h.rs.man.ne h.box (by decide)) (hrb.ne h.box (by decide)),hb,own_far hr (own_ne_blk hr h.box (by decide)) _,h.gf,h.lu,h.lx⟩
theorem BS.grow (h:BS w q rd ver next u l fb nm id sz bu acc s W) (hg:W.grownBy W' bu.ownBlock) (hr:W'.ownsRow fb 3 1 bu' acc'.length (acc'.map iv)):BS w q rd ver next u l fb nm id sz bu' acc' s (W'.setCell ⟨fb,3,none⟩ bu'):=by
 obtain⟨cs,hrb,hrg⟩:=h.rs.rd.blk;have hu:Upon (λk=>bu.ownBlock=some k) W W':=Upon.of_grown hg (λg hg=>.inl hg);have hrs:=h.upon hu (λk hk=>by have h1:=(h.bl.lt k hk).1;rcases Nat.lt_or_eq_of_le h1 with h2|h2;exact .inl h2;exact .inr h2.symm) (own_ne_blk h.bl h.rs.man (by decide)) (own_ne_blk h.bl hrb (by decide));have hbx:=h.box.upon hu (own_ne_blk h.bl h.box (by decide));obtain⟨cs2,hrb2,_⟩:=hrs.rd.blk;have hu2:Upon (λk=>k=fb) W' (W'.setCell ⟨fb,3,none⟩ bu'):=(Upon.refl (λk=>k=fb) W').set (p:=⟨fb,3,none⟩) (.inl rfl) _;exact⟨hrs.upon hu2 (λk hk=>by rw[hk];exact h.gf) (hrs.man.ne hbx (by decide)) (λk hk e=>by have:=h.lu k hk;omega) (λx hx k hk e=>by have:=h.lx x hx k hk;omega) (hrb2.ne hbx (by decide)),hbx.set 3 bu',own_far hr (own_ne_blk hr hbx (by decide)) _,h.gf,h.lu,h.lx⟩
end RefD
namespace Full
open Go.RowKit Go.Deep Mem Crc Go.Maps Dk Mani
open Store (Chg none' nv Files)
theorem on_fuse {B s d g cm:Nat} {w:World} {Q:Nat->Prop} {m:DM} {ver next:Nat} {fs:List Fil} {C:Chg} {H:Files} {k:Nat} (h:On B s d g cm w Q m ver next fs C H k) (n:Int) (h0: -9223372036854775808<=n) (h1:n<=9223372036854775807):
  Calls Tryz.prog 31 #[.pointer (some ⟨d,0,none⟩),.int .i64 n] w λe w'=>e=.returned (.tuple #[])/\∃Q',On B s d g cm w' Q' {m with fuse:=n} ver next fs C H k/\(∀x,Q' x->Q x\/w.heap.size<=x)/\Upon Q w w':=by
 obtain⟨wv,a,c,l,hf,hl⟩:=h.fu;refine(fuse_on n h0 h1 hf.disk).mono ?_;rintro e w' ⟨rfl,hD,ho⟩;have hu:Upon (Has d g wv) w w':=Upon.of_only ho (λx hx=>.inl (by rw[jE.1 hx];exact .inl rfl));have hw:WS w d g wv {m with fuse:=n} wv w':=⟨hD,hu,λx hx=>.inl hx⟩;have hQ:=hu.mono (λx hx=>hf.qd x hx);exact⟨rfl,_,h.then hQ (λx hx=>hx.imp id (λe=>e.1)) ⟨wv,a,c,l,hf.wrote hw,hl⟩ h.off h.wt h.big h.on h.ok h.few,λx hx=>hx.imp id (λe=>e.1),hQ⟩
end Full
namespace RefF
open Go.RowKit Go.Deep Mem Crc
open Store (nv)
attribute [local go_sem] eqIn_F neq_F guard_F
attribute [local go_sem] Oper.semAt_some
theorem same_q (a b:Option Addr) (cp cq:Nat) (l l2:List FF) (w:World) (h:Lies w a (flatP l)) (h2:Lies w b (flatP l2)) (hn:l.length<=100000) (hn2:l2.length<=100000):
  Calls Tryz.prog 21 #[.slice a l.length cp,.slice b l2.length cq] w λe w'=>e=.returned (.bool (decide (l=l2)))/\∃m,w'=w.drewN m:=by
 obtain⟨rv,hrv⟩:=jl (decide (l=l2));rw[<-hrv];have HRV:=jq hrv;clear hrv;obtain⟨n,hnn⟩:=jl l.length;obtain⟨n2,hnn2⟩:=jl l2.length;rw[<-hnn]at hn⊢;rw[<-hnn2]at hn2⊢;have H:=jq h;have H2:=jq h2;have HN:=jq hnn;have HN2:=jq hnn2;clear h h2 hnn hnn2
 by_cases hl:n=n2
 ·subst hl
  go_enter Tryz.func21,Tryz.ntmps21
  go_wp2_with fail
  go_loopw[13] (λi wr=>∃k:Nat,k<=n/\i=.int .i64 (k:Int)/\Hid (∃m,wr=w.drewN m)/\Hid (l.take k=l2.take k)) (λi _=>n-(intOf i).toNat)
  case atStart=>exact⟨0,Nat.zero_le _,rfl,jq ⟨0,rfl⟩,jq rfl⟩
  case round=>
   obtain⟨k,hk,rfl,hB,hp⟩:=hrel
   have hBB:Below w.heap.size w wr:=by
    obtain⟨m0,e⟩:=hB.out;rw[e];exact drewN_below (Below.refl _ _) _
   by_cases hkn:k<n
   ·have hkd:decide ((k:Int) <(n:Int))=true:=jd (by omega);obtain⟨x,hx⟩:∃x,l[k]? =some x:=⟨l[k]'(by rw[<-HN.out];exact hkn),jg _⟩;obtain⟨y,hy⟩:∃y,l2[k]? =some y:=⟨l2[k]'(by rw[<-HN2.out];exact hkn),jg _⟩;obtain⟨g,o,rfl,c0,c1⟩:=cells_at (H.out.later hBB) hx;obtain⟨g2,o2,rfl,d0,d1⟩:=cells_at (H2.out.later hBB) hy;obtain⟨sx,hsx⟩:∃b:ByteArray,nv x.1=.string b:=⟨_,rfl⟩;obtain⟨tx,htx⟩:∃b:ByteArray,nv x.2=.string b:=⟨_,rfl⟩;obtain⟨sy,hsy⟩:∃b:ByteArray,nv y.1=.string b:=⟨_,rfl⟩;obtain⟨ty,hty⟩:∃b:ByteArray,nv y.2=.string b:=⟨_,rfl⟩;rw[hsx]at c0;rw[htx]at c1;rw[hsy]at d0;rw[hty]at d1;have HX:=jq hx;have HY:=jq hy;have Hsx:=jq hsx;have Htx:=jq htx;have Hsy:=jq hsy;have Hty:=jq hty
    have hxy:x=y↔(sx.toList=sy.toList/\tx.toList=ty.toList):=by
     have q1:=str_beq hsx hsy;have q2:=str_beq htx hty;rw[Bool.eq_iff_iff]at q1 q2;simp only[beq_iff_eq]at q1 q2;rw[q1,q2];exact⟨λe=>by rw[e];exact⟨rfl,rfl⟩,λe=>Prod.ext e.1 e.2⟩
    have HXY:=jq hxy;clear hx hy hsx htx hsy hty hxy
    by_cases e1:sx.toList=sy.toList
    ·by_cases e2:tx.toList=ty.toList
     ·have he:x=y:=HXY.out.2 ⟨e1,e2⟩;have hp2:l.take (k+1)=l2.take (k+1):=by rw[List.take_add_one,List.take_add_one,hp.out,HX.out,HY.out,he]
      have HP2:=jq hp2;clear he hp2 hp
      go_wp2_with fail
      go_quiet (fail)
      go_wp2_with fail
      exact⟨⟨k+1,hkn,by simp,jq (hB.out.elim (λm0 e=>⟨m0+nq,by rw[e,World.drewN_drewN]⟩)),HP2⟩,by simp[intOf];omega⟩
     ·have hne:l≠l2:=λe=>e2 (HXY.out.1 (Option.some.inj (HX.out.symm.trans ((by rw[e]:l[k]? =l2[k]?).trans HY.out)))).2
      have HNE:=jq hne;clear hne
      go_wp2_with fail
      go_quiet (fail)
      go_wp2_with fail
      go_ret
      exact⟨by rw[HRV.out,jf HNE.out];rfl,hB.out.elim (λm0 e=>⟨m0+nq,by rw[e,World.drewN_drewN]⟩)⟩
    ·have hne:l≠l2:=λe=>e1 (HXY.out.1 (Option.some.inj (HX.out.symm.trans ((by rw[e]:l[k]? =l2[k]?).trans HY.out)))).1
     have HNE:=jq hne;clear hne
     go_wp2_with fail
     go_quiet (fail)
     go_wp2_with fail
     go_ret
     exact⟨by rw[HRV.out,jf HNE.out];rfl,hB.out.elim (λm0 e=>⟨m0+nq,by rw[e,World.drewN_drewN]⟩)⟩
   ·obtain rfl:n=k:=by omega
    have hkd:decide ((n:Int) <(n:Int))=false:=jf (by omega)
    have hf:l=l2:=by
     have h1:=hp.out;rw[jW (by rw[HN.out];exact Nat.le_refl _),jW (by rw[HN2.out];exact Nat.le_refl _)]at h1;exact h1
    have HF:=jq hf;clear hf hp
    go_wp2_with fail
    go_ret
    exact⟨by rw[HRV.out,jd HF.out];rfl,hB.out⟩
 ·have hne:l≠l2:=λe=>hl (by rw[HN.out,HN2.out,e])
  have hnd: (n==n2)=false:=by simpa using hl
  have hnd2:decide ((n:Int)=(n2:Int))=false:=jf (by omega);have HNE:=jq hne;clear hne
  go_enter Tryz.func21,Tryz.ntmps21
  go_wp2_with fail
  go_ret
  exact⟨by rw[HRV.out,jf HNE.out];rfl,⟨0,rfl⟩⟩
end RefF
namespace Full
open Go.RowKit Dk Mani Go.Proofs.YtbfochdoeibofaaGreatDoor.Read Man
open Store (Chg none' nv Files)
theorem backs_same (keep torn:Nat):∀(ws:List (Nat×List UInt8)) (i:Nat) (bl:List (List UInt8)),(∀x∈ws,bl[x.1]? =some x.2)->backs keep torn i bl ws=bl
 | [],_,_,_=>rfl
 |x ::r,i,bl,h=>by
  have hx:=h x (by simp);have hlt:=(jS.1 hx).1;have hg:=(jS.1 hx).2;have e1:bl.set x.1 x.2=bl:=by rw[<-hg];exact List.set_getElem_self hlt
  have e2:bl.getD x.1 []=x.2:=by rw[List.getD_eq_getElem?_getD,hx];rfl
  have e3:halfB (bl.getD x.1 []) x.2=x.2:=by rw[e2];unfold halfB;exact List.take_append_drop 64 x.2
  unfold backs;rw[e3,e1,ite_self,ite_self];exact backs_same keep torn r (i+1) bl (λy hy=>h y (by simp[hy]))
theorem slotB_blocks {bl:List (List UInt8)} {b:List UInt8} {n:Nat} (hlen:∀x∈bl,x.length=128) (hn:n*16+16<=bl.length) (h:slotB bl n=b):∀x∈slotW (n*16) b,bl[x.1]? =some x.2:=by
 intro x hx;unfold Dk.slotW at hx;obtain⟨k,hk,rfl⟩:=List.mem_map.1 hx;have hk:=List.mem_range.1 hk;obtain⟨c,hc⟩:∃c,bl[n*16+k]? =some c:=⟨bl[n*16+k]'(by omega),jg _⟩;have hcl:=hlen c (jM hc);show bl[n*16+k]? =some ((b.drop (k*128)).take 128);rw[hc,<-h]
 have hj:∀j,k+1<=j->j<=16->((slotJ bl n j).drop (k*128)).take 128=c:=by
  intro j
  induction j with
  |zero=>intro h1;omega
  |succ j ih=>
   intro h1 h2;obtain⟨d,hd⟩:∃d,bl[n*16+j]? =some d:=⟨bl[n*16+j]'(by omega),jg _⟩;have hjl:=slotJ_length (n:=n) (j:=j) hlen (by omega);rw[slotJ_succ hd]
   by_cases e:k=j
   ·subst e;rw[hc]at hd;cases hd;rw[List.drop_append,hjl,Nat.sub_self,List.drop_of_length_le (by omega),List.nil_append,List.drop_zero,jW (by omega)]
   ·have hkj:k+1<=j:=by omega
    have:=Nat.mul_le_mul_right 128 hkj;rw[List.drop_append_of_le_length (by omega),List.take_append_of_le_length (by rw[List.length_drop,hjl];omega)];exact ih hkj (by omega)
 unfold Man.slotB;rw[hj 16 (by omega) jn]
theorem best_none {P:MT}:bestO none (some P)=some P/\bestO (some P) none=some P/\bestO (some P) (some P)=some P:=by
 refine⟨rfl,rfl,?_⟩;unfold bestO;dsimp only;rw[if_neg (Nat.lt_irrefl _)]
theorem best_le {a b:Option MT} {P:MT} (h:bestO a b=some P): (a=some P\/b=some P)/\bestO (some P) b=some P/\bestO a (some P)=some P:=by
 unfold bestO at h⊢
 cases b with
 |none=>
  dsimp only at h⊢;subst h;refine⟨.inl rfl,rfl,?_⟩;dsimp only;rw[if_neg (Nat.lt_irrefl _)]
 |some p=>
  cases a with
  |none=>
   dsimp only at h⊢;have h:=Option.some.inj h;subst h;exact⟨.inr rfl,by rw[if_neg (Nat.lt_irrefl _)],rfl⟩
  |some q=>
   dsimp only at h⊢
   by_cases hqp:q.1<p.1
   ·rw[if_pos hqp]at h;have h:=Option.some.inj h;subst h;exact⟨.inr rfl,by rw[if_neg (Nat.lt_irrefl _)],by rw[if_pos hqp]⟩
   ·rw[if_neg hqp]at h;have h:=Option.some.inj h;subst h;exact⟨.inl rfl,by rw[if_neg hqp],by rw[if_neg (Nat.lt_irrefl _)]⟩
theorem mani_again {m:DM} {n ver next:Nat} {fs:List Fil} (h33:33<=m.bl.length) (hlen:∀x∈m.bl,x.length=128) (hst: (readM m.bl).1=some (ver,next,fs)) (hok:Okm n ver next fs) (hcl:∀j,j<2->∀p,getS (slotB m.bl j)=some p->slotB m.bl j=manL p.1 p.2.1 p.2.2) (hw:m.wt= []) (hz: (m.mani ver (manL ver next fs)).2≠0) (keep torn:Nat)
  (hmix:∀j,j<2->getS (slotB (backD (m.mani ver (manL ver next fs)).1 keep torn).bl j)=none\/slotB (backD (m.mani ver (manL ver next fs)).1 keep torn).bl j=slotB m.bl j\/slotB (backD (m.mani ver (manL ver next fs)).1 keep torn).bl j=manL ver next fs):
  (readM (backD (m.mani ver (manL ver next fs)).1 keep torn).bl).1=some (ver,next,fs)/\∀i,32<=i->(backD (m.mani ver (manL ver next fs)).1 keep torn).bl[i]? =m.bl[i]?:=by
 obtain⟨-,hfell⟩:=mani_fell hw hz;generalize (m.mani ver (manL ver next fs)).1=m' at hfell hmix⊢;have hlenb:=manL_length hok.may;have hP:=getS_man hok;rw[(readM_best _).1]at hst⊢;obtain⟨hA,hB0,hB1⟩:=best_le hst;have hm2:=Nat.mod_lt ver (show 0<2 by decide);have e12: (ver+1)%2=1-ver%2:=by omega
 have hfar:∀(bl:List (List UInt8)) (ws:List (Nat×List UInt8)) (i:Nat),(∀x∈ws,x.1<32)->32<=i->(backs keep torn 0 bl ws)[i]? =bl[i]?:=λbl ws i hws hi=>backs_other _ _ _ _ _ _ (λhm=>by
  obtain⟨x,hx,e⟩:=List.mem_map.1 hm;have:=hws x hx
  omega)
 unfold backD at hmix⊢;dsimp only at hmix⊢;rcases hfell with hf|hf
 ·have hwt:=hf.wt;rw[hf.bl]at hmix⊢;have hw32:∀x∈m'.wt,x.1<32:=λx hx=>by have:=slotW_in (hwt x hx);omega
  refine⟨?_,λi hi=>hfar _ _ i hw32 hi⟩;have ho:slotB (backs keep torn 0 m.bl m'.wt) (1-ver%2)=slotB m.bl (1-ver%2):=slotB_backs (λx hx=>by have:=slotW_in (hwt x hx);omega)
  have hsame:getS (slotB m.bl (ver%2))=some (ver,next,fs)->backs keep torn 0 m.bl m'.wt=m.bl:=λh=>by
   have hb:=hcl _ hm2 _ h;exact backs_same keep torn _ _ _ (λx hx=>slotB_blocks hlen (by omega) hb x (hwt x hx))
  by_cases hs:getS (slotB m.bl (ver%2))=some (ver,next,fs)
  ·rw[hsame hs];exact hst
  ·have ha:=hmix _ hm2;have hv:ver%2=0\/ver%2=1:=by omega
   rcases hv with hv|hv
   ·rw[hv]at ho ha hs;rw[show(1-0:Nat)=1 from rfl]at ho;rw[ho];rcases ha with ha|ha|ha
    ·rw[ha,hA.resolve_left hs];exact best_none.1
    ·rw[ha];exact hst
    ·rw[ha,hP];exact hB0
   ·rw[hv]at ho ha hs;rw[show(1-1:Nat)=0 from rfl]at ho;rw[ho];rcases ha with ha|ha|ha
    ·rw[ha,hA.resolve_right hs];exact best_none.2.1
    ·rw[ha];exact hst
    ·rw[ha,hP];exact hB1
 ·have hwt:=hf.wt;rw[hf.bl]at hmix⊢;rw[e12]at hwt;have hw32:∀x∈m'.wt,x.1<32:=λx hx=>by have:=slotW_in (hwt x hx);omega
  refine⟨?_,λi hi=>?_⟩
  ·have h1:slotB (backs keep torn 0 (puts m.bl (slotW (ver%2*16) (manL ver next fs))) m'.wt) (ver%2)=manL ver next fs:=by
    rw[slotB_backs (λx hx=>by have:=slotW_in (hwt x hx);omega)];exact slotB_put hlenb (by omega)
   have ha:=hmix (1-ver%2) (by omega);have hv:ver%2=0\/ver%2=1:=by omega
   rcases hv with hv|hv
   ·rw[hv]at h1 ha;rw[show(1-0:Nat)=1 from rfl]at ha;rw[hv,h1,hP];rcases ha with ha|ha|ha
    ·rw[ha];exact best_none.2.1
    ·rw[ha];exact hB0
    ·rw[ha,hP];exact best_none.2.2
   ·rw[hv]at h1 ha;rw[show(1-1:Nat)=0 from rfl]at ha;rw[hv,h1,hP];rcases ha with ha|ha|ha
    ·rw[ha];exact best_none.1
    ·rw[ha];exact hB1
    ·rw[ha,hP];exact best_none.2.2
  ·rw[hfar _ _ _ hw32 hi,puts_other];intro hm;have:=slotW_keys hm
   omega
end Full
end Go.Proofs.YtbfochdoeibofaaGreatDoor
