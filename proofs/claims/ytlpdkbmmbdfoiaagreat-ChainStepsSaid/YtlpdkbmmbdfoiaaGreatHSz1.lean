/-
  Sizes for the theorem of lumping: the rate, an element of the matrix of steps, a step, sums of a step. No code is walked here.
-/
import Derived.Test.YtlpdkbmmbdfoiaaGreatHSa2
import Derived.Test.YtlpdkbmmbdfoiaaGreatHOv
import Derived.Test.YtlpdkbmmbdfoiaaGreatHWt
import Derived.Test.YtlpdkbmmbdfoiaaGreatHRb8
import Derived.Test.YtlpdkbmmbdfoiaaGreatHOrd
set_option linter.unusedVariables false
set_option linter.unusedSimpArgs false
namespace Go.Proofs.YtlpdkbmmbdfoiaaGreat
open Go.RowKit
set_option maxRecDepth 100000 in
set_option maxHeartbeats 1600000 in
theorem znr (va vb:Value) (a b:List Rat) (w:World) (ha:zbb w va a) (hb:zbb w vb b):
 Calls Tryz.prog 23 #[va,vb] w (RSame w (a=b)):=by
 have sa:=ha.sl
 have la:=ha.len
 have sb:=hb.sl
 have lb:=hb.len
 have hle:=sa.le
 have hle2:=sb.le
 rw[la]at hle
 rw[lb]at hle2
 have hlb:a.length≤9223372036854775807:=by omega
 have hlb2:b.length≤9223372036854775807:=by omega
 clear hle hle2
 by_cases hlen:a.length=b.length
 ·skip
  have hL:=zH hlen
  rw[←hlen]at lb
  clear hlen
  go_enter Tryz.func23,Tryz.ntmps23
  go_wp2_with fail
  go_loopw [5] (fun u5 wr=>∃ (k:Nat),k≤a.length∧u5= .int .i64 k∧(∀ (j:Nat) (h1:j<a.length) (h2:j<b.length),j<k→a[j]=b[j])∧Below w.heap.size w wr) (fun u5 _=>a.length- (intOf u5).toNat)
  case atStart=>exact⟨0,Nat.zero_le _,rfl,fun j _ _ h=>by omega,Below.refl _ _⟩
  case round=>
   obtain⟨k,hk,rfl,hst,hbr⟩:=hrel
   have HST:=zH hst
   clear hst
   by_cases hkl:k<a.length
   ·have hkb:k<b.length:=by rw[←hL.out];exact hkl
    have hdr:=zja (B:=wr.heap.size) wr
    have hbd:=zaa hbr hdr
    obtain⟨a1,a2,c1,c2,c3,n1,n2⟩:=(ha.below hbd).at' k hkl
    obtain⟨b1,b2,d1,d2,d3,m1,m2⟩:=(hb.below hbd).at' k hkb
    have i1:(0:Int)≤(k:Int):=by omega
    have i2:(k:Int)<(a.length:Nat):=by omega
    generalize ha':a[k]'hkl=x at *
    generalize hb':b[k]'hkb=y at *
    have HA:=zH ha'
    have HB:=zH hb'
    clear ha' hb'
    have hX:zqa wr.drew (.agg #[.bool (decide (x<0)),a1,a2]) x:=⟨_,_,rfl,n1,n2⟩
    have hY:zqa wr.drew (.agg #[.bool (decide (y<0)),b1,b2]) y:=⟨_,_,rfl,m1,m2⟩
    clear n1 n2 m1 m2
    go_wp2_with fail
    go_region_held3 (fun w'=>w'.cell? (ptr va (k*3))=some (.bool (decide (x<0)))∧w'.cell? (ptr va (k*3+1))=some a1∧w'.cell? (ptr va (k*3+2))=some a2∧w'.cell? (ptr vb (k*3))=some (.bool (decide (y<0)))∧w'.cell? (ptr vb (k*3+1))=some b1∧w'.cell? (ptr vb (k*3+2))=some b2) (exact⟨c1,c2,c3,d1,d2,d3⟩) (first
     |(go_at_call 61;(with_reducible refine(znt _ _ x y _ hX hY).mono ?_);rintro e9 w9 ⟨⟨r9,rfl,h9⟩,hb9⟩
       have c1:=zba hb9 c1
       have c2:=zba hb9 c2
       have c3:=zba hb9 c3
       have d1:=zba hb9 d1
       have d2:=zba hb9 d2
       have d3:=zba hb9 d3))
    clear c1 c2 c3 d1 d2 d3 hX hY
    have hbr2:=zaa hbd hb9
    by_cases hxy:x=y
    ·obtain rfl:r9=true:=h9.2 hxy
     have HST2:Hid (∀ (j:Nat) (h1:j<a.length) (h2:j<b.length),j<k+1→a[j]=b[j]):=zH (fun j h1 h2 h3=>by
      rcases Nat.lt_or_ge j k with h4 | h4
      ·exact HST.out j h1 h2 h4
      ·obtain rfl:j=k:=by omega
       rw[HA.out,HB.out,hxy])
     clear hxy h9
     go_wp2
     go_roundw
     case rel=>exact⟨k+1,by omega,by go_num,HST2.out,hbr2⟩
     case measure=>simp[intOf];omega
    ·obtain rfl:r9=false:=Bool.eq_false_iff.2 (fun h=>hxy (h9.1 h))
     have HXY:=zH hxy
     clear hxy h9
     go_wp2
     go_ret
     exact⟨⟨false,rfl,by simp;intro h;subst h;exact HXY.out (HA.out.symm.trans HB.out)⟩,hbr2⟩
   ·go_wp2_with fail
    go_ret
    refine⟨⟨true,rfl,by simp;exact ztt hL.out (fun j h1 h2=>HST.out j h1 h2 (by omega))⟩,hbr⟩
 ·skip
  have hne:((a.length:Int)==(b.length:Int))=false:=by simp;omega
  go_enter Tryz.func23,Tryz.ntmps23
  go_wp2_with fail
  go_ret
  exact⟨⟨false,rfl,by simp;intro h;exact hlen (by rw[h])⟩,Below.refl _ _⟩
structure MatC (w:World) (v:Value) (m:List (List Rat)):Prop where
 sl:zgc v
 len:slen v=m.length
 at':∀ (j:Nat) (h:j<m.length),∃r,w.cell? (ptr v j)=some r∧zbb w r m[j]
theorem MatC.below {w w':World} {v:Value} {m:List (List Rat)} (h:MatC w v m) (hb:Below w.heap.size w w'):MatC w' v m:=
 ⟨h.sl,h.len,fun j hj=>by obtain⟨r,h1,h2⟩:=h.at' j hj;exact⟨r,zba hb h1,h2.below hb⟩⟩
structure CQ where
 rates:List (List Rat)
 start:List Rat
 lost:List Bool
def zlq (w:World) (v:Value) (c:CQ):Prop:=∃r s l,v= .agg #[r,s,l]∧MatC w r c.rates∧zbb w s c.start∧zcm w l c.lost
theorem zlq.below {w w':World} {v:Value} {c:CQ} (h:zlq w v c) (hb:Below w.heap.size w w'):zlq w' v c:=by
 obtain⟨r,s,l,rfl,h1,h2,h3⟩:=h;exact⟨r,s,l,rfl,h1.below hb,h2.below hb,h3.below hb⟩
def CQ.raw (c:CQ):RC:=⟨c.rates.map fun r=>r.map RF.of,c.start.map RF.of,c.lost⟩
theorem MatC.raw {w:World} {v:Value} {m:List (List Rat)} (h:MatC w v m):MatN w v (m.map fun r=>r.map RF.of):=
 ⟨h.sl,by rw[h.len,List.length_map],fun j hj=>by
  obtain⟨r,h1,h2⟩:=h.at' j (by simpa using hj)
  rw[List.getElem_map]
  exact⟨r,h1,h2.raw⟩⟩
theorem zlq.raw {w:World} {v:Value} {c:CQ} (h:zlq w v c):zdq w v c.raw:=by
 obtain⟨r,s,l,rfl,h1,h2,h3⟩:=h;exact⟨r,s,l,rfl,h1.raw,h2.raw,h3⟩
theorem zhb.tick {B b a:Nat} {l:List Nat} {w w':World} (ht:znb w b l a) (hb:b<B) (h:zyl b w w'):zhb B w w':=by
 refine⟨h.size,fun g h1 h2=> ?_,fun p z hp=>h.cell ht.c1 hp (fun z=>by simp)⟩
 rcases h with⟨k,rfl⟩ | ⟨k,k',a',rfl⟩
 ·exact(zka (B:=w.heap.size) w k).block g h2
 ·have h3:=(zka (B:=w.heap.size) w k)
  rw[(zka (B:=((w.drewN k).setCell ⟨b,1,none⟩ (.int .i64 a')).heap.size) _ k').block g (by simp[World.setCell];have:=h3.size;omega)]
  rw[Below.heap_setCell _ _ _ _ (by simp;omega)]
  exact h3.block g h2
theorem znb.below {w w':World} {l:List Nat} {b a:Nat} (h:znb w b l a) (hb:Below w.heap.size w w'):znb w' b l a:=by
 obtain⟨lt,⟨v,e1,e2⟩,c1,f1,h1,h2,h3⟩:=h
 exact⟨Nat.lt_of_lt_of_le lt hb.size,⟨v,zba hb e1,e2.below hb⟩,zba hb c1,by rw[hb.frozen lt];exact f1,h1,h2,h3⟩
def zvf (w:World) (b:Nat) (l:List Nat) (B a:Nat):Prop:=znb w b l a∧∀v,w.cell? ⟨b,0,none⟩=some v→∀j,j<l.length→(ptr v j).block<B
theorem znb.b {w:World} {b a:Nat} {l:List Nat} (h:znb w b l a):zvf w b l w.heap.size a:=by
 refine⟨h,fun v hv j hj=> ?_⟩
 obtain⟨v',e1,e2⟩:=h.ex
 rw[e1]at hv
 injection hv with hv
 subst hv
 exact World.block_lt_of_cell? w _ (e2.cell j (by simpa using hj))
theorem zvf.mono {w:World} {b a B B':Nat} {l:List Nat} (h:zvf w b l B a) (hB:B≤B'):zvf w b l B' a:=⟨h.1,fun v hv j hj=>Nat.lt_of_lt_of_le (h.2 v hv j hj) hB⟩
theorem zvf.below {w w':World} {b a B:Nat} {l:List Nat} (h:zvf w b l B a) (hb:Below w.heap.size w w'):zvf w' b l B a:=by
 obtain⟨h1,h2⟩:=h
 refine⟨h1.below hb,fun v hv j hj=> ?_⟩
 rw[hb.cell h1.lt]at hv
 exact h2 v hv j hj
theorem zvf.low {w w':World} {b a B:Nat} {l:List Nat} (h:zvf w b l B a) (hb:Below B w w') (hB:b<B):zvf w' b l B a:=by
 obtain⟨⟨lt,⟨v,e1,e2⟩,c1,f1,h1,h2,h3⟩,h4⟩:=h
 have hl:=h4 v e1
 refine⟨⟨Nat.lt_of_lt_of_le lt hb.size,⟨v,by rw[hb.cell (by exact hB)];exact e1,e2.sl,e2.len,fun j hj=> ?_⟩,by rw[hb.cell (by exact hB)];exact c1,by rw[hb.frozen (by exact hB)];exact f1,h1,h2,h3⟩,fun u hu j hj=> ?_⟩
 ·rw[hb.cell (hl j (by simpa using hj))];exact e2.cell j hj
 ·rw[hb.cell (by exact hB)]at hu
  exact h4 u hu j hj
theorem zvf.tick {w w':World} {b a a' B:Nat} {l:List Nat} (h:zvf w b l B a) (ht:zyl b w w') (hta:znb w' b l a'):zvf w' b l B a':=by
 refine⟨hta,fun v hv j hj=> ?_⟩
 obtain⟨u,e1,e2⟩:=h.1.ex
 have e3:=ht.cell h.1.c1 e1 (fun z=>by obtain⟨a,n,c,rfl,_⟩:=zhc.sl e2;simp)
 rw[e3]at hv
 injection hv with hv
 subst hv
 exact h.2 _ e1 j hj
theorem zvf.set {w:World} {b a B:Nat} {l:List Nat} (h:zvf w b l B a) {p:Addr} {x:Value} (hp:p.block≠b) (hc:w.cell? p=some x) (hx:∀z,x≠ .int .u8 z) (u:Value):zvf (w.setCell p u) b l B a:=by
 obtain⟨⟨lt,⟨v,e1,e2⟩,c1,f1,h1,h2,h3⟩,h4⟩:=h
 have hne:∀k,p≠⟨b,k,none⟩:=fun k e=>hp (by rw[e])
 refine⟨⟨by simpa [World.setCell]using lt,⟨v,by rw[World.cell?_setCell_other _ _ _ _ (hne _)];exact e1,e2.sl,e2.len,fun j hj=> ?_⟩,by rw[World.cell?_setCell_other _ _ _ _ (hne _)];exact c1,by rw[World.frozen?_setCell];exact f1,h1,h2,h3⟩,fun u' hu j hj=> ?_⟩
 ·rw[World.cell?_setCell_other]
  ·exact e2.cell j hj
  ·intro e
   have h6:=e2.cell j hj
   rw[←e,hc]at h6
   injection h6 with h6
   rw[List.getElem_map]at h6
   exact hx _ h6
 ·rw[World.cell?_setCell_other _ _ _ _ (hne _)]at hu
  exact h4 u' hu j hj
theorem zyl.frozen {w w':World} {b:Nat} (h:zyl b w w') {p:Addr} (hp:p.block<w.heap.size):w'.frozen? p=w.frozen? p:=by
 rcases h with⟨k,rfl⟩ | ⟨k,k',a,rfl⟩
 ·exact(zka (B:=w.heap.size) w k).frozen hp
 ·have h1:=(zka (B:=w.heap.size) w k)
  rw[(zka (B:=((w.drewN k).setCell ⟨b,1,none⟩ (.int .i64 a)).heap.size) _ k').frozen (by simp[World.setCell];have:=h1.size;omega)]
  rw[World.frozen?_setCell]
  exact h1.frozen hp
theorem C3.tick {w w':World} {b a c:Nat} {l:List Nat} {v0 v1 v2:Value} (h:C3 w c v0 v1 v2) (hta:znb w b l a) (ht:zyl b w w') (n0:∀z,v0≠ .int .i64 z) (n1:∀z,v1≠ .int .i64 z) (n2:∀z,v2≠ .int .i64 z):C3 w' c v0 v1 v2:=
 ⟨Nat.lt_of_lt_of_le h.lt ht.size,ht.cell hta.c1 h.c0 n0,ht.cell hta.c1 h.c1 n1,ht.cell hta.c1 h.c2 n2,by rw[ht.frozen h.lt];exact h.f0,by rw[ht.frozen h.lt];exact h.f1,by rw[ht.frozen h.lt];exact h.f2⟩
theorem zgc.noInt {v:Value} (h:zgc v):∀z,v≠ .int .i64 z:=fun z e=>by obtain⟨a,n,c,rfl,_⟩:=h;cases e
theorem zgc.noLimb {v:Value} (h:zgc v):∀z,v≠ .int .u32 z:=fun z e=>by obtain⟨a,n,c,rfl,_⟩:=h;cases e
theorem zgc.noByte {v:Value} (h:zgc v):∀z,v≠ .int .u8 z:=fun z e=>by obtain⟨a,n,c,rfl,_⟩:=h;cases e
theorem zid {w w':World} {B:Nat} {u:Value} (hg:w.grownBy w' u.ownBlock) (hB:B≤w.heap.size) (hu:∀k,u.ownBlock=some k→B≤k∧k<w.heap.size):Below B w w':=zna hg hB (fun k hk=>(hu k hk).1)
structure ChW (w:World) (bt:Nat) (l:List Nat) (B b5:Nat) (vr vs vl:Value) (rs:List Value) (rates:List (List Rat)) (start:List Rat) (lost:List Bool):Prop where
 tape:∃a,zvf w bt l B a
 box:C3 w b5 vr vs vl
 st:zya w 38 B vs start
 lo:zlc w 4 B 1 vl (lost.map Value.bool).length (lost.map Value.bool)
 ra:zlc w 25 B 1 vr rs.length rs
 rl:rs.length=rates.length
 rows:∀ (j:Nat) (h:j<rs.length) (h':j<rates.length),zya w 38 B rs[j] rates[j]∧(rs[j].ownBlock=none∨rs[j].ownBlock≠vs.ownBlock)
 sz:B≤w.heap.size
 bt5:bt<B∧b5<B∧b5≠bt
section
variable {w w':World} {bt:Nat} {l:List Nat} {B b5:Nat} {vr vs vl:Value} {rs:List Value} {rates:List (List Rat)} {start:List Rat} {lost:List Bool}
theorem ChW.of (h:ChW w bt l B b5 vr vs vl rs rates start lost) (hm:zhb B w w') (ht:∃a,zvf w' bt l B a) (hb:C3 w' b5 vr vs vl):ChW w' bt l B b5 vr vs vl rs rates start lost:=
 ⟨ht,hb,h.st.moves hm (Nat.le_refl _),h.lo.moves hm (Nat.le_refl _),h.ra.moves hm (Nat.le_refl _),h.rl,fun j h1 h2=>⟨(h.rows j h1 h2).1.moves hm (Nat.le_refl _),(h.rows j h1 h2).2⟩,Nat.le_trans h.sz hm.size,h.bt5⟩
theorem ChW.below (h:ChW w bt l B b5 vr vs vl rs rates start lost) (hb:Below w.heap.size w w'):ChW w' bt l B b5 vr vs vl rs rates start lost:=by
 obtain⟨a,ht⟩:=h.tape
 exact h.of (zhb.below hb) ⟨a,ht.below hb⟩ (h.box.belowS hb)
theorem ChW.tick (h:ChW w bt l B b5 vr vs vl rs rates start lost) {a':Nat} (ht:zyl bt w w') (hta:znb w' bt l a'):ChW w' bt l B b5 vr vs vl rs rates start lost:=by
 obtain⟨a,h0⟩:=h.tape
 exact h.of (zhb.tick h0.1 h.bt5.1 ht) ⟨a',h0.tick ht hta⟩ (h.box.tick h0.1 ht h.ra.sl.noInt h.st.sl.noInt h.lo.sl.noInt)
theorem ChW.lostG (h:ChW w bt l B b5 vr vs vl rs rates start lost) {c:Bool} {v':Value} (hv:zlc w' 4 B 1 v' (lost.map Value.bool++ [Value.bool c]).length (lost.map Value.bool++ [Value.bool c])) (hg:w.grownBy w' vl.ownBlock) (hn:zlb w vl):
 ChW (w'.setCell ⟨b5,2,none⟩ v') bt l B b5 vr vs v' rs rates start (lost++ [c])∧Below B w w':=by
 obtain⟨⟨a,ht⟩,box,st,lo,ra,rl,rows,sz,b1,b2,b3⟩:=h
 have hb:=zid (B:=B) hg sz lo.block
 have box':=box.below hb b2
 have hm:zhb B w' (w'.setCell ⟨b5,2,none⟩ v'):=zhb.set b2 box'.c2 lo.sl.noLimb _
 obtain⟨xs,s1,s2⟩:=id st
 have st':zya w' 38 B vs start:=st.grown hg hn (s1.kinds lo (by decide))
 refine⟨⟨⟨a,(ht.low hb b1).set (by exact b3) box'.c2 lo.sl.noByte _⟩,box'.set2 _,st'.moves hm (Nat.le_refl _),?_,(ra.grown hg (ra.kinds lo (by decide))).moves hm (Nat.le_refl _),rl,fun j h1 h2=> ?_,Nat.le_trans sz (Nat.le_trans hb.size hm.size),b1,b2,b3⟩,hb⟩
 ·rw[List.map_append];exact hv.moves hm (Nat.le_refl _)
 ·obtain⟨k1,k2⟩:=rows j h1 h2
  obtain⟨ys,y1,y2⟩:=id k1
  exact⟨(k1.grown hg hn (y1.kinds lo (by decide))).moves hm (Nat.le_refl _),k2⟩
theorem ChW.startG (h:ChW w bt l B b5 vr vs vl rs rates start lost) {q:Rat} {v':Value} {k:Nat} (hv:zya w' 38 B v' (start++ [q])) (hg:w.grownBy w' vs.ownBlock) (hn:zlb w vs) (hvb:v'.ownBlock=vs.ownBlock∨v'.ownBlock=some k) (hk:w.heap.size≤k):
 ChW (w'.setCell ⟨b5,1,none⟩ v') bt l B b5 vr v' vl rs rates (start++ [q]) lost∧Below B w w':=by
 obtain⟨⟨a,ht⟩,box,st,lo,ra,rl,rows,sz,b1,b2,b3⟩:=h
 have hb:=zid (B:=B) hg sz st.block
 have box':=box.below hb b2
 have hm:zhb B w' (w'.setCell ⟨b5,1,none⟩ v'):=zhb.set b2 box'.c1 st.sl.noLimb _
 obtain⟨xs,s1,s2⟩:=id st
 refine⟨⟨⟨a,(ht.low hb b1).set (by exact b3) box'.c1 st.sl.noByte _⟩,box'.set1 _,hv.moves hm (Nat.le_refl _),(lo.grown hg (lo.kinds s1 (by decide))).moves hm (Nat.le_refl _),(ra.grown hg (ra.kinds s1 (by decide))).moves hm (Nat.le_refl _),rl,fun j h1 h2=> ?_,Nat.le_trans sz (Nat.le_trans hb.size hm.size),b1,b2,b3⟩,hb⟩
 obtain⟨k1,k2⟩:=rows j h1 h2
 refine⟨(k1.grown hg hn k2).moves hm (Nat.le_refl _),?_⟩
 rcases k2 with k2 | k2
 ·exact Or.inl k2
 ·cases ho:rs[j].ownBlock with
  | none=>exact Or.inl rfl
  | some g=>
    refine Or.inr ?_
    have:=k1.block g ho
    rcases hvb with e | e
    ·rw[e,←ho];exact k2
    ·rw[e];intro e2;injection e2 with e2;omega
theorem ChW.ratesG (h:ChW w bt l B b5 vr vs vl rs rates start lost) {q:List Rat} {r v':Value} (hr:zya w 38 B r q) (hrs:r.ownBlock=none∨r.ownBlock≠vs.ownBlock) (hv:zlc w' 25 B 1 v' (rs++ [r]).length (rs++ [r])) (hg:w.grownBy w' vr.ownBlock) (hn:zlb w vr):
 ChW (w'.setCell ⟨b5,0,none⟩ v') bt l B b5 v' vs vl (rs++ [r]) (rates++ [q]) start lost∧Below B w w':=by
 obtain⟨⟨a,ht⟩,box,st,lo,ra,rl,rows,sz,b1,b2,b3⟩:=h
 have hb:=zid (B:=B) hg sz ra.block
 have box':=box.below hb b2
 have hm:zhb B w' (w'.setCell ⟨b5,0,none⟩ v'):=zhb.set b2 box'.c0 ra.sl.noLimb _
 obtain⟨xs,s1,s2⟩:=id st
 obtain⟨zs,z1,z2⟩:=id hr
 refine⟨⟨⟨a,(ht.low hb b1).set (by exact b3) box'.c0 ra.sl.noByte _⟩,box'.set0 _,(st.grown hg hn (s1.kinds ra (by decide))).moves hm (Nat.le_refl _),(lo.grown hg (lo.kinds ra (by decide))).moves hm (Nat.le_refl _),hv.moves hm (Nat.le_refl _),by simp[rl],fun j h1 h2=> ?_,Nat.le_trans sz (Nat.le_trans hb.size hm.size),b1,b2,b3⟩,hb⟩
 rcases Nat.lt_or_ge j rs.length with hj | hj
 ·have hj2:j<rates.length:=by omega
  rw[List.getElem_append_left hj,List.getElem_append_left hj2]
  obtain⟨k1,k2⟩:=rows j hj hj2
  obtain⟨ys,y1,y2⟩:=id k1
  exact⟨(k1.grown hg hn (y1.kinds ra (by decide))).moves hm (Nat.le_refl _),k2⟩
 ·obtain rfl:j=rs.length:=by simp at h1;omega
  have e1:(rs++ [r])[rs.length]'h1=r:=by simp
  have e2:(rates++ [q])[rs.length]'h2=q:=by simp[rl]
  rw[e1,e2]
  exact⟨(hr.grown hg hn (z1.kinds ra (by decide))).moves hm (Nat.le_refl _),hrs⟩
end
structure MkR (w:World) (B:Nat) (v:Value) (rs:List Value) (c:Nat) (A:Mx):Prop where
 ra:zlc w 25 B 1 v rs.length rs
 rows:∀ (j:Nat) (h:j<rs.length),zya w 38 B rs[j] (zib c (A j))
 sz:B≤w.heap.size
section
variable {w w':World} {B c:Nat} {v v' r:Value} {rs:List Value} {A:Mx}
theorem MkR.below (h:MkR w B v rs c A) (hb:Below w.heap.size w w'):MkR w' B v rs c A:=
 ⟨h.ra.moves (zhb.below (B:=B) hb) (Nat.le_refl _),fun j hj=>(h.rows j hj).moves (zhb.below (B:=B) hb) (Nat.le_refl _),Nat.le_trans h.sz hb.size⟩
theorem MkR.push (h:MkR w B v rs c A) (hr:zya w 38 B r (zib c (A rs.length))) (hv:zlc w' 25 B 1 v' (rs++ [r]).length (rs++ [r])) (hg:w.grownBy w' v.ownBlock) (hn:zlb w v):
 MkR w' B v' (rs++ [r]) c A∧Below B w w':=by
 obtain⟨ra,rows,sz⟩:=h
 have hb:Below B w w':=zna hg sz (fun k hk=>(ra.block k hk).1)
 refine⟨⟨hv,fun j h1=> ?_,Nat.le_trans sz hb.size⟩,hb⟩
 rcases Nat.lt_or_ge j rs.length with hj | hj
 ·rw[List.getElem_append_left hj]
  obtain⟨ys,y1,y2⟩:=id (rows j hj)
  exact(rows j hj).grown hg hn (y1.kinds ra (by decide))
 ·obtain rfl:j=rs.length:=by simp at h1;omega
  have e1:(rs++ [r])[rs.length]'h1=r:=by simp
  obtain⟨zs,z1,z2⟩:=id hr
  rw[e1]
  exact hr.grown hg hn (z1.kinds ra (by decide))
theorem MkR.mat (h:MkR w B v rs c A):zam w v rs.length c A:=
 ⟨h.ra.sl,h.ra.len,fun i hi=>⟨rs[i],h.ra.cell i hi,(h.rows i hi).fracs⟩⟩
end
set_option maxRecDepth 100000 in
set_option maxHeartbeats 1600000 in
theorem sub_frac (va vb:Value) (s t:Bool) (n d m e:Nat) (w:World) (ha:zdc w va s n d) (hb:zdc w vb t m e) (h1:okN n d) (h2:okN m e):
 Calls Tryz.prog 163 #[va,vb] w (zmi w (fq s n d-fq t m e)):=by
 have hA:=ha
 have hB:=hb
 obtain⟨xn,xd,rfl,hxn,hxd⟩:=ha
 obtain⟨yn,yd,rfl,hyn,hyd⟩:=hb
 obtain⟨an,ln,kn,rfl,_⟩:=hxn.slen.1
 obtain⟨ad,ld,kd,rfl,_⟩:=hxd.slen.1
 obtain⟨am,lm,km,rfl,_⟩:=hyn.slen.1
 obtain⟨ae,le,ke,rfl,_⟩:=hyd.slen.1
 have HQ:=zH (fq_sub s t n d m e h2.1)
 have K1:=zH h1
 have K2:=zH h2
 clear h1 h2 hxn hxd hyn hyd
 go_enter Tryz.func163,Tryz.ntmps163
 go_wp2_with fail
 obtain⟨W,hW⟩:∃W,W=(((w.alloc (.cells #[.bool s, .slice an ln kn, .slice ad ld kd] 38)).alloc (.cells #[.bool t, .slice am lm km, .slice ae le ke] 38)).alloc (.cells #[.bool false, .slice none 0 0, .slice none 0 0] 38)):=⟨_,rfl⟩
 obtain⟨bx,byy,bz,hbw⟩:=zmc w 38 _ _ _ _ _ _ _ _ _ W hW
 rw[←hW]
 clear hW
 have hd2:=zja (B:=W.heap.size) W
 have hD:=hbw.trans (hd2.mono hbw.size)
 have hbx3:=bx.belowS hd2
 have hby3:=byy.belowS hd2
 have hbz3:=bz.belowS hd2
 have HX3:=zH hbx3
 have HY3:=zH hby3
 have HZ3:=zH hbz3
 have gA:=hA.below hD
 have gB:=hB.below hD
 clear bx byy bz hbw hA hB hd2
 obtain⟨_,q1,q2,q3,q4,q5,q6⟩:=hbx3
 obtain⟨_,r1,r2,r3,r4,r5,r6⟩:=hby3
 obtain⟨_,z1,z2,z3,z4,z5,z6⟩:=hbz3
 go_region_held3 (fun w'=>w'.cell? ⟨w.heap.size,0,none⟩=some (.bool s)∧w'.cell? ⟨w.heap.size,1,none⟩=some (.slice an ln kn)∧w'.cell? ⟨w.heap.size,2,none⟩=some (.slice ad ld kd)∧w'.cell? ⟨w.heap.size+1,0,none⟩=some (.bool t)∧w'.cell? ⟨w.heap.size+1,1,none⟩=some (.slice am lm km)∧w'.cell? ⟨w.heap.size+1,2,none⟩=some (.slice ae le ke)) (first | with_reducible exact⟨q1,q2,q3,r1,r2,r3⟩ | (refine⟨?_,?_,?_,?_,?_,?_⟩<;>go_simp)) (first
  |(go_at_call 202;(with_reducible refine(fminus_any _ t m e _ gB).mono ?_);rintro e9 w3 ⟨v3,rfl,hv3,hb3⟩
    have gA3:=gA.below hb3
    have X4:=HX3.out.belowS hb3
    have Y4:=HY3.out.belowS hb3
    have HX4:=zH X4
    have HY4:=zH Y4
    obtain⟨_,q1,q2,q3,q4,q5,q6⟩:=X4
    obtain⟨_,r1,r2,r3,r4,r5,r6⟩:=Y4)
  |(go_at_call 80;(with_reducible refine(zco _ _ s (!t) n d m e _ gA3 hv3 K1.out K2.out).mono ?_);rintro e9 w5 ⟨v,er,rfl,hv1,hv2,hv4⟩
    obtain⟨t9,x9,y9,rfl,⟨a1,l91,k1,rfl,_⟩,⟨a2,l92,k2,rfl,_⟩⟩:=zpb (w0:=w) hv2 hv4
    have hp26:=zaa hb3 hv1
    have X6:=HX4.out.belowS hv1
    have Y6:=HY4.out.belowS hv1
    have Z6:=HZ3.out.belowS hp26
    have HZ6:=zH Z6
    obtain⟨_,q1,q2,q3,q4,q5,q6⟩:=X6
    obtain⟨_,r1,r2,r3,r4,r5,r6⟩:=Y6
    obtain⟨_,z1,z2,z3,z4,z5,z6⟩:=Z6))
 all_goals
  go_wp2_with fail
  refine zoa rfl rfl Tryz.aggF Tryz.sizeF (HZ6.out.set _ _ _) rfl ?_
  rw[HQ.out]
  exact⟨_,_,rfl,zga (hD.trans (hp26.mono hD.size)) (by omega) _ _ _,fun h=>⟨(hv2 h).1,(hv2 h).2.set3 HZ6.out (fun z=>by simp) (fun z=>by simp) _ _ _⟩,hv4⟩
theorem sub_can (va vb:Value) (p q:Rat) (w:World) (ha:zqa w va p) (hb:zqa w vb q) (hp:fits p) (hq:fits q) (hr:fits (p-q)):Calls Tryz.prog 163 #[va,vb] w (RF0 w (p-q)):=by
 have:=sub_frac va vb _ _ _ _ _ _ w ha.raw hb.raw (zuc hp) (zuc hq)
 rw[zvb,zvb]at this
 exact this.mono fun _ _ h=>h.ok rfl hr
theorem zbl (va vb:Value) (p q:Rat) (w:World) (ha:zqa w va p) (hb:zqa w vb q) (hp:fits p) (hq:fits q) (hr:fits (p*q)):Calls Tryz.prog 131 #[va,vb] w (RF0 w (p*q)):=by
 have:=mul_frac va vb _ _ _ _ _ _ w ha.raw hb.raw (zuc hp) (zuc hq)
 rw[zvb,zvb]at this
 exact this.mono fun _ _ h=>h.ok rfl hr
theorem add_can (va vb:Value) (p q:Rat) (w:World) (ha:zqa w va p) (hb:zqa w vb q) (hp:fits p) (hq:fits q) (hr:fits (p+q)):Calls Tryz.prog 80 #[va,vb] w (RF0 w (p+q)):=by
 have:=zco va vb _ _ _ _ _ _ w ha.raw hb.raw (zuc hp) (zuc hq)
 rw[zvb,zvb]at this
 exact this.mono fun _ _ h=>h.ok rfl hr
theorem quo_can (va vb:Value) (p q:Rat) (w:World) (ha:zqa w va p) (hb:zqa w vb q) (hp:fits p) (hq:fits q) (hq0:q≠0) (hr:fits (p/q)):Calls Tryz.prog 161 #[va,vb] w (RF0 w (p/q)):=by
 have:=quo_frac va vb _ _ _ _ _ _ w ha.raw hb.raw (zuc hp) (zuc hq) (fun h=>hq0 (Rat.num_eq_zero.1 (by omega)))
 rw[zvb,zvb]at this
 exact this.mono fun _ _ h=>h.ok rfl hr
theorem zbb.cellsAt {w:World} {v:Value} {l:List Rat} (h:zbb w v l) {k:Nat} (hk:k<l.length):
 ∃t a1 l1 k1 a2 l2 k2,w.cell? (ptr v (k*3))=some (.bool t)∧w.cell? (ptr v (k*3+1))=some (.slice a1 l1 k1)∧w.cell? (ptr v (k*3+2))=some (.slice a2 l2 k2)∧zqa w (.agg #[.bool t, .slice a1 l1 k1, .slice a2 l2 k2]) (l.getD k 0):=by
 obtain⟨za,zb,p1,p2,p3,p4,p5⟩:=h.at' k hk
 obtain⟨za1,za2,za3,rfl,_⟩:=p4.v.sl
 obtain⟨zb1,zb2,zb3,rfl,_⟩:=p5.v.sl
 refine⟨_,_,_,_,_,_,_,p1,p2,p3,?_⟩
 rw[List.getD_eq_getElem?_getD,List.getElem?_eq_getElem hk]
 exact⟨_,_,rfl,p4,p5⟩
end Go.Proofs.YtlpdkbmmbdfoiaaGreat
namespace Go.Proofs.YtlpdkbmmbdfoiaaGreat
def zfq (c:RC) (ρ:Rat):Nat→Nat→Rat:=fun i j=>if i=j then 1-zgg (zaq c i)/ρ else(zaq c i).getD j 0/ρ
theorem over.div {D R N:Nat} (hD:D≠0) (hR:R≠0) {q:Rat} (h:over D N q):over R N (q/mkRat ((R:Nat):Int) D):=by
 obtain⟨z,rfl,hz⟩:=h
 refine⟨z,?_,hz⟩
 rw[Rat.div_def,inv_mk hR hD,Rat.mkRat_mul_mkRat,Nat.mul_comm D R]
 exact Rat.mkRat_mul_right hD
section
variable {c:RC} {n N S R:Nat}
theorem stepE_over (hR:R≠0) (hr:∀i j,i<n→j<n→over 144 N ((zaq c i).getD j 0)) (hs:∀i,i<n→over 144 S (zgg (zaq c i))) {i j:Nat} (hi:i<n) (hj:j<n):
 over R (R+S+N) (zfq c (mkRat ((R:Nat):Int) 144) i j):=by
 unfold zfq
 split
 ·rw[Rat.sub_eq_add_neg]
  exact(over.add hR (over.one hR) (over.neg (over.div (by decide) hR (hs i hi)))).mono (by omega)
 ·exact(over.div (by decide) hR (hr i j hi hj)).mono (by omega)
theorem step_fits1 (hR:R≠0) (hRb:R≤30000) (hNb:N≤30000) (hr:∀i j,i<n→j<n→over 144 N ((zaq c i).getD j 0)):∀i j,i<n→j<n→fits ((zaq c i).getD j 0/mkRat ((R:Nat):Int) 144):=
 fun i j hi hj=>(over.div (by decide) hR (hr i j hi hj)).fits hR (Nat.lt_of_le_of_lt hNb (by decide+kernel)) (Nat.lt_of_le_of_lt hRb (by decide+kernel))
theorem step_fits2 (hR:R≠0) (hRb:R≤30000) (hSb:S≤30000) (hs:∀i,i<n→over 144 S (zgg (zaq c i))):∀i,i<n→fits (zgg (zaq c i)/mkRat ((R:Nat):Int) 144)∧fits (1-zgg (zaq c i)/mkRat ((R:Nat):Int) 144):=
 fun i hi=>by
  have h1:=over.div (by decide) hR (hs i hi)
  refine⟨h1.fits hR (Nat.lt_of_le_of_lt hSb (by decide+kernel)) (Nat.lt_of_le_of_lt hRb (by decide+kernel)),?_⟩
  rw[Rat.sub_eq_add_neg]
  exact(over.add hR (over.one hR) (over.neg h1)).fits hR (Nat.lt_of_le_of_lt (show R+S≤60000 by omega) (by decide+kernel)) (Nat.lt_of_le_of_lt hRb (by decide+kernel))
end
end Go.Proofs.YtlpdkbmmbdfoiaaGreat
