/-
  What is kept while a tape is read; a law in the making beside a tape. No code is walked here.
-/
import Derived.Test.YtlpdkbmmbdfoiaaGTa6
import Derived.Test.YtlpdkbmmbdfoiaaGRa3
import Derived.Test.YtlpdkbmmbdfoiaaGMk1
set_option linter.unusedVariables false
set_option linter.unusedSimpArgs false
namespace Go.Proofs.Ytlpdkbmmbdfoiaa
open Go.RowKit
structure zve (w:World) (B:Nat) (vs ve vr:Value) (rs:List Value) (S E:List Rat) (R:List (List Rat)):Prop where
 s:zya w 32 B vs S
 e:zya w 32 B ve E
 ra:zlc w 23 B 1 vr rs.length rs
 rl:rs.length=R.length
 rows:∀ (j:Nat) (h:j<rs.length) (h':j<R.length),zya w 32 B rs[j] R[j]
 ds:vs.ownBlock≠ve.ownBlock
 dr:∀ (j:Nat) (h:j<rs.length),rs[j].ownBlock≠vs.ownBlock∧rs[j].ownBlock≠ve.ownBlock
 dd:∀ (i j:Nat) (hi:i<rs.length) (hj:j<rs.length),i≠j→rs[i].ownBlock≠rs[j].ownBlock
 sz:B≤w.heap.size
section
variable {w w':World} {B:Nat} {vs ve vr:Value} {rs:List Value} {S E:List Rat} {R:List (List Rat)}
theorem zve.moves (h:zve w B vs ve vr rs S E R) (hm:zhb B w w'):zve w' B vs ve vr rs S E R:=
 ⟨h.s.moves hm (Nat.le_refl _),h.e.moves hm (Nat.le_refl _),h.ra.moves hm (Nat.le_refl _),h.rl,fun j h1 h2=>(h.rows j h1 h2).moves hm (Nat.le_refl _),h.ds,h.dr,h.dd,Nat.le_trans h.sz hm.size⟩
theorem zve.below (h:zve w B vs ve vr rs S E R) (hb:Below w.heap.size w w'):zve w' B vs ve vr rs S E R:=h.moves (zhb.below (B:=B) hb)
theorem zve.lawC (h:zve w B vs ve vr rs S E R) (nm:Value):zhm w (.agg #[nm,vs,vr,ve]) ⟨S,E,R⟩:=
 ⟨nm,vs,vr,ve,rfl,h.s.fracs,⟨h.ra.sl,by rw[h.ra.len];exact h.rl,fun j hj=>by
  have hj2:j<rs.length:=by rw[h.rl];exact hj
  exact⟨rs[j],h.ra.cell j hj2,(h.rows j hj2 hj).fracs⟩⟩,h.e.fracs⟩
theorem zya.kindR {v u:Value} {q:List Rat} {xs:List Value} (h:zya w 32 B v q) (h2:zlc w 23 B 1 u xs.length xs):v.ownBlock=none∨v.ownBlock≠u.ownBlock:=by
 obtain⟨ys,y1,y2⟩:=id h
 exact y1.kinds h2 (by decide)
theorem zya.kindR' {v u:Value} {q:List Rat} {xs:List Value} (h:zya w 32 B v q) (h2:zlc w 23 B 1 u xs.length xs):u.ownBlock=none∨u.ownBlock≠v.ownBlock:=by
 obtain⟨ys,y1,y2⟩:=id h
 exact h2.kinds y1 (by decide)
theorem zve.push (h:zve w B vs ve vr rs S E R) {r v':Value} {q:List Rat} (hr:zya w 32 B r q) (h1:r.ownBlock≠vs.ownBlock) (h2:r.ownBlock≠ve.ownBlock) (h3:∀ (j:Nat) (h:j<rs.length),rs[j].ownBlock≠r.ownBlock)
 (hv:zlc w' 23 B 1 v' (rs++ [r]).length (rs++ [r])) (hg:w.grownBy w' vr.ownBlock) (hn:zlb w vr):zve w' B vs ve v' (rs++ [r]) S E (R++ [q])∧Below B w w':=by
 have hb:Below B w w':=zid (B:=B) hg h.sz h.ra.block
 refine⟨⟨h.s.grown hg hn (h.s.kindR h.ra),h.e.grown hg hn (h.e.kindR h.ra),hv,by simp[h.rl],fun j h4 h5=> ?_,h.ds,fun j h4=> ?_,fun i j hi hj hij=> ?_,Nat.le_trans h.sz hb.size⟩,hb⟩
 ·rcases Nat.lt_or_ge j rs.length with hj | hj
  ·have hj2:j<R.length:=by rw[←h.rl];exact hj
   rw[List.getElem_append_left hj,List.getElem_append_left hj2]
   exact(h.rows j hj hj2).grown hg hn ((h.rows j hj hj2).kindR h.ra)
  ·obtain rfl:j=rs.length:=by simp at h4;omega
   have e1:(rs++ [r])[rs.length]'h4=r:=by simp
   have e2:(R++ [q])[rs.length]'h5=q:=by simp[h.rl]
   rw[e1,e2]
   exact hr.grown hg hn (hr.kindR h.ra)
 ·rcases Nat.lt_or_ge j rs.length with hj | hj
  ·rw[List.getElem_append_left hj]
   exact h.dr j hj
  ·obtain rfl:j=rs.length:=by simp at h4;omega
   have e1:(rs++ [r])[rs.length]'h4=r:=by simp
   rw[e1]
   exact⟨h1,h2⟩
 ·have key:∀k (hk:k<(rs++ [r]).length),¬k<rs.length→(rs++ [r])[k]=r∧k=rs.length:=fun k hk hk2=>by
   obtain rfl:k=rs.length:=by simp at hk;omega
   exact⟨by simp,rfl⟩
  by_cases hi2:i<rs.length
  ·by_cases hj2:j<rs.length
   ·rw[List.getElem_append_left hi2,List.getElem_append_left hj2]
    exact h.dd i j hi2 hj2 hij
   ·rw[(key j hj hj2).1,List.getElem_append_left hi2]
    exact h3 i hi2
  ·by_cases hj2:j<rs.length
   ·rw[(key i hi hi2).1,List.getElem_append_left hj2]
    exact fun e=>h3 j hj2 e.symm
   ·exact absurd ((key i hi hi2).2.trans (key j hj hj2).2.symm) hij
theorem zve.putS (h:zve w B vs ve vr rs S E R) {i:Nat} (hi:i<S.length) {x y z:Value} {r:Rat} (hf:zqa w (.agg #[x,y,z]) r):
 zve (((w.setCell (ptr vs (i*3)) x).setCell (ptr vs (i*3+1)) y).setCell (ptr vs (i*3+2)) z) B vs ve vr rs (S.set i r) E R∧Below B w (((w.setCell (ptr vs (i*3)) x).setCell (ptr vs (i*3+1)) y).setCell (ptr vs (i*3+2)) z):=by
 obtain⟨p1,hg⟩:=h.s.put hi hf
 have hn:=h.s.noLimb
 have hb:=zid (B:=B) hg h.sz h.s.block
 exact⟨⟨p1,h.e.grown hg hn (Or.inr fun e=>h.ds e.symm),h.ra.grown hg (h.s.kindR' h.ra),h.rl,fun j h1 h2=>(h.rows j h1 h2).grown hg hn (Or.inr (h.dr j h1).1),h.ds,h.dr,h.dd,Nat.le_trans h.sz hb.size⟩,hb⟩
theorem zve.putE (h:zve w B vs ve vr rs S E R) {i:Nat} (hi:i<E.length) {x y z:Value} {r:Rat} (hf:zqa w (.agg #[x,y,z]) r):
 zve (((w.setCell (ptr ve (i*3)) x).setCell (ptr ve (i*3+1)) y).setCell (ptr ve (i*3+2)) z) B vs ve vr rs S (E.set i r) R∧Below B w (((w.setCell (ptr ve (i*3)) x).setCell (ptr ve (i*3+1)) y).setCell (ptr ve (i*3+2)) z):=by
 obtain⟨p1,hg⟩:=h.e.put hi hf
 have hn:=h.e.noLimb
 have hb:=zid (B:=B) hg h.sz h.e.block
 exact⟨⟨h.s.grown hg hn (Or.inr h.ds),p1,h.ra.grown hg (h.e.kindR' h.ra),h.rl,fun j h1 h2=>(h.rows j h1 h2).grown hg hn (Or.inr (h.dr j h1).2),h.ds,h.dr,h.dd,Nat.le_trans h.sz hb.size⟩,hb⟩
theorem zve.putR (h:zve w B vs ve vr rs S E R) {i j:Nat} (hi:i<rs.length) (hi2:i<R.length) (hj:j<R[i].length) {x y z:Value} {r:Rat} (hf:zqa w (.agg #[x,y,z]) r):
 zve (((w.setCell (ptr rs[i] (j*3)) x).setCell (ptr rs[i] (j*3+1)) y).setCell (ptr rs[i] (j*3+2)) z) B vs ve vr rs S E (R.set i (R[i].set j r))∧Below B w (((w.setCell (ptr rs[i] (j*3)) x).setCell (ptr rs[i] (j*3+1)) y).setCell (ptr rs[i] (j*3+2)) z):=by
 have hrow:=h.rows i hi hi2
 obtain⟨p1,hg⟩:=hrow.put hj hf
 have hn:=hrow.noLimb
 have hb:=zid (B:=B) hg h.sz hrow.block
 refine⟨⟨h.s.grown hg hn (Or.inr fun e=>(h.dr i hi).1 e.symm),h.e.grown hg hn (Or.inr fun e=>(h.dr i hi).2 e.symm),h.ra.grown hg (hrow.kindR' h.ra),by rw[List.length_set];exact h.rl,fun k h1 h2=> ?_,h.ds,h.dr,h.dd,Nat.le_trans h.sz hb.size⟩,hb⟩
 by_cases e:i=k
 ·subst e
  rw[List.getElem_set_self]
  exact p1
 ·rw[List.getElem_set_ne e]
  exact(h.rows k h1 (by rw[List.length_set]at h2;exact h2)).grown hg hn (Or.inr fun e2=>h.dd k i h1 hi (fun e3=>e e3.symm) e2)
theorem zlc.lower {B' n size:Nat} {e:TypeId} {v:Value} {xs:List Value} (h1:zlc w e B size v n xs) (hB:B'≤B):zlc w e B' size v n xs:=by
 refine⟨⟨h1.own.1,?_⟩,h1.nl⟩
 rcases h1.own.2 with h | ⟨g,cap,cur,rfl,hb,rest⟩
 ·exact .inl h
 ·exact .inr ⟨g,cap,cur,rfl,by omega,rest⟩
theorem zve.mono {B':Nat} (h:zve w B vs ve vr rs S E R) (hB:B'≤B):zve w B' vs ve vr rs S E R:=
 ⟨h.s.mono hB,h.e.mono hB,h.ra.lower hB,h.rl,fun j h1 h2=>(h.rows j h1 h2).mono hB,h.ds,h.dr,h.dd,Nat.le_trans hB h.sz⟩
theorem zya.neB {v:Value} {q:List Rat} {e:TypeId} {b:Nat} {s:ByteArray} (h:zya w e B v q) (hq:0<q.length) (hc:w.cell? ⟨b,0,none⟩=some (.string s)):v.ownBlock≠some b:=by
 obtain⟨g,h1,_,_,_,hp⟩:=h.blk hq
 rw[h1]
 intro e
 injection e with e
 subst e
 obtain⟨x,y,e1,_⟩:=h.fracs.at' 0 hq
 rw[Nat.zero_mul,hp,hc]at e1
 cases e1
theorem zlc.neB {v:Value} {xs:List Value} {e:TypeId} {b:Nat} {s:ByteArray} (h:zlc w e B 1 v xs.length xs) (hq:0<xs.length) (hx:∀j (hj:j<xs.length),zgc xs[j]) (hc:w.cell? ⟨b,0,none⟩=some (.string s)):v.ownBlock≠some b:=by
 obtain⟨g,h1,_,_,_,hp⟩:=h.blk hq
 rw[h1]
 intro e
 injection e with e
 subst e
 have e1:=h.cell 0 hq
 rw[hp,hc]at e1
 obtain⟨a,l,k,h2,_⟩:=hx 0 hq
 injection e1 with e1
 rw[h2]at e1
 cases e1
structure zve.Pos (vr:Value) (rs:List Value) (S E:List Rat) (R:List (List Rat)):Prop where
 s:0<S.length
 e:0<E.length
 r:∀ (j:Nat) (h:j<R.length),0<R[j].length
 v:rs= []→vr.ownBlock=none
theorem zve.over (h:zve w B vs ve vr rs S E R) (hp:zve.Pos vr rs S E R) {b:Nat} {s:ByteArray} (hc:w.cell? ⟨b,0,none⟩=some (.string s)) {p:Addr} {x:Value} (hpb:p.block=b) (hx:w.cell? p=some x) (hn:∀z,x≠ .int .u32 z) (u:Value):
 zve (w.setCell p u) B vs ve vr rs S E R:=by
 have n1:vs.ownBlock≠some p.block:=by rw[hpb];exact h.s.neB hp.s hc
 have n2:ve.ownBlock≠some p.block:=by rw[hpb];exact h.e.neB hp.e hc
 have n3:vr.ownBlock=none∨vr.ownBlock≠some p.block:=by
  rw[hpb]
  rcases Nat.eq_zero_or_pos rs.length with h0 | h0
  ·exact Or.inl (hp.v (List.length_eq_zero_iff.1 h0))
  ·exact Or.inr (h.ra.neB h0 (fun j hj=>(h.rows j hj (by rw[←h.rl];exact hj)).sl) hc)
 exact⟨h.s.over (Or.inr n1) hx hn u,h.e.over (Or.inr n2) hx hn u,h.ra.over n3 u,h.rl,fun j h1 h2=>(h.rows j h1 h2).over (Or.inr (by rw[hpb];exact(h.rows j h1 h2).neB (hp.r j h2) hc)) hx hn u,h.ds,h.dr,h.dd,by
  have:=h.sz
  simpa [World.setCell]using this⟩
end
section
variable {w:World} {b:Nat} {v0 v1 v2 v3:Value}
theorem C4.set (h:C4 w b v0 v1 v2 v3) (u0 u1 u2 u3:Value):C4 ((((w.setCell ⟨b,0,none⟩ u0).setCell ⟨b,1,none⟩ u1).setCell ⟨b,2,none⟩ u2).setCell ⟨b,3,none⟩ u3) b u0 u1 u2 u3:=by
 obtain⟨lt,c0,c1,c2,c3,f0,f1,f2,f3⟩:=h
 refine⟨by simpa [World.setCell]using lt,?_,?_,?_,?_,?_,?_,?_,?_⟩<;>go_simp
theorem C4.set2 (h:C4 w b v0 v1 v2 v3) (u:Value):C4 (w.setCell ⟨b,2,none⟩ u) b v0 v1 u v3:=by
 obtain⟨lt,c0,c1,c2,c3,f0,f1,f2,f3⟩:=h
 refine⟨by simpa [World.setCell]using lt,?_,?_,?_,?_,?_,?_,?_,?_⟩<;>go_simp
theorem C4.other (h:C4 w b v0 v1 v2 v3) {p:Addr} (hp:p.block≠b) (u:Value):C4 (w.setCell p u) b v0 v1 v2 v3:=by
 have key:∀k,p≠⟨b,k,none⟩:=fun k e=>hp (by rw[e])
 have key2:∀k,(⟨b,k,none⟩:Addr)≠p:=fun k e=>hp (by rw[←e])
 obtain⟨lt,c0,c1,c2,c3,f0,f1,f2,f3⟩:=h
 refine⟨by simpa [World.setCell]using lt,?_,?_,?_,?_,?_,?_,?_,?_⟩
 all_goals first
  |(rw[World.cell?_setCell_other _ _ _ _ (key2 _)];assumption)
  |(rw[World.cell?_setCell_other _ _ _ _ (key _)];assumption)
  |(rw[World.frozen?_setCell];assumption)
theorem C4.grown {w':World} {row:Option Nat} (h:C4 w b v0 v1 v2 v3) (hg:w.grownBy w' row) (hne:row≠some b):C4 w' b v0 v1 v2 v3:=by
 have hb:=hg.block b h.lt (fun e=>hne e.symm)
 obtain⟨lt,c0,c1,c2,c3,f0,f1,f2,f3⟩:=h
 have hc:∀k,w'.cell? ⟨b,k,none⟩=w.cell? ⟨b,k,none⟩:=fun k=>by unfold World.cell?;rw[hb]
 have hf:∀k,w'.frozen? ⟨b,k,none⟩=w.frozen? ⟨b,k,none⟩:=fun k=>by unfold World.frozen?;rw[hb]
 exact⟨Nat.lt_of_lt_of_le lt hg.size,by rw[hc];exact c0,by rw[hc];exact c1,by rw[hc];exact c2,by rw[hc];exact c3,by rw[hf];exact f0,by rw[hf];exact f1,by rw[hf];exact f2,by rw[hf];exact f3⟩
theorem own_ne {w1 w2:World} {B1:Nat} {e1 e2:TypeId} {v v':Value} {q q':List Rat} (h:zya w1 e1 B1 v q) (h':zya w2 e2 w1.heap.size v' q') (hq':0<q'.length):v'.ownBlock≠v.ownBlock:=by
 obtain⟨g,h1,_,h2,_,_⟩:=h'.blk hq'
 rw[h1]
 intro e
 have:=h.block g e.symm
 omega
theorem zqd {w0 w:World} {B b:Nat} (h:Below B w0 w) (hb:B≤b) (u0 u1 u2 u3:Value):Below B w0 ((((w.setCell ⟨b,0,none⟩ u0).setCell ⟨b,1,none⟩ u1).setCell ⟨b,2,none⟩ u2).setCell ⟨b,3,none⟩ u3):=
 (zga h hb u0 u1 u2).setCell (p:=⟨b,3,none⟩) hb u3
theorem zve.set4 {B:Nat} {vs ve vr:Value} {rs:List Value} {S E:List Rat} {R:List (List Rat)} {s:ByteArray} (h:zve w B vs ve vr rs S E R) (hp:zve.Pos vr rs S E R) (hc:C4 w b (.string s) v1 v2 v3) (n1:∀z,v1≠ .int .u32 z) (n2:∀z,v2≠ .int .u32 z) (n3:∀z,v3≠ .int .u32 z) (s':ByteArray) (u1 u2 u3:Value):
 zve ((((w.setCell ⟨b,0,none⟩ (.string s')).setCell ⟨b,1,none⟩ u1).setCell ⟨b,2,none⟩ u2).setCell ⟨b,3,none⟩ u3) B vs ve vr rs S E R:=by
 obtain⟨lt,c0,c1,c2,c3,f0,f1,f2,f3⟩:=hc
 have k1:=h.over hp c0 (p:=⟨b,0,none⟩) rfl c0 (fun z=>by simp) (.string s')
 have k2:=k1.over hp (b:=b) (s:=s') (by go_simp) (p:=⟨b,1,none⟩) rfl (x:=v1) (by go_simp) n1 u1
 have k3:=k2.over hp (b:=b) (s:=s') (by go_simp) (p:=⟨b,2,none⟩) rfl (x:=v2) (by go_simp) n2 u2
 exact k3.over hp (b:=b) (s:=s') (by go_simp) (p:=⟨b,3,none⟩) rfl (x:=v3) (by go_simp) n3 u3
end
structure FaW (w:World) (B:Nat) (vE vR:Value) (rs:List Value) (n ie:Nat) (E:Nat→Rat) (M:Mx):Prop where
 e:zya w 32 B vE (zib ie E)
 m:MkR w B vR rs n M
 dr:∀ (j:Nat) (h:j<rs.length),rs[j].ownBlock≠vE.ownBlock
section
variable {w w':World} {B n ie:Nat} {vE vR:Value} {rs:List Value} {E:Nat→Rat} {M:Mx}
theorem FaW.moves (h:FaW w B vE vR rs n ie E M) (hm:zhb B w w'):FaW w' B vE vR rs n ie E M:=
 ⟨h.e.moves hm (Nat.le_refl _),⟨h.m.ra.moves hm (Nat.le_refl _),fun j hj=>(h.m.rows j hj).moves hm (Nat.le_refl _),Nat.le_trans h.m.sz hm.size⟩,h.dr⟩
theorem FaW.below (h:FaW w B vE vR rs n ie E M) (hb:Below w.heap.size w w'):FaW w' B vE vR rs n ie E M:=h.moves (zhb.below (B:=B) hb)
theorem FaW.nil (w:World) (n:Nat) (E:Nat→Rat) (M:Mx):FaW w w.heap.size (.slice none 0 0) (.slice none 0 0) [] n 0 E M:=
 ⟨zya.nil _ _ _,⟨zlc.nil _ _ _ _,fun j h=>by simp at h,Nat.le_refl _⟩,fun j h=>by simp at h⟩
theorem FaW.pushE (h:FaW w B vE vR rs n ie E M) (hn1:1≤n) {v':Value} (h1:zya w' 32 B v' (zib ie E++ [E ie])) (hg:w.grownBy w' vE.ownBlock) (hn:zlb w vE) (hq:v'.ownBlock=vE.ownBlock∨v'.ownBlock=some (w.heap.size+1)):FaW w' B v' vR rs n (ie+1) E M∧Below B w w':=by
 have hb:Below B w w':=zid (B:=B) hg h.m.sz h.e.block
 refine⟨⟨by rw[←zlk];exact h1,⟨h.m.ra.grown hg (h.e.kindR' h.m.ra),fun j hj=>(h.m.rows j hj).grown hg hn (Or.inr (h.dr j hj)),Nat.le_trans h.m.sz hb.size⟩,fun j hj e=> ?_⟩,hb⟩
 rcases hq with hq | hq
 ·exact h.dr j hj (e.trans hq)
 ·have hlen:0<(zib n (M j)).length:=by rw[zea];exact hn1
  obtain⟨g,k1,_,_,k2,_⟩:=(h.m.rows j hj).blk hlen
  rw[hq,k1]at e
  injection e with e
  omega
theorem FaW.pushR (h:FaW w B vE vR rs n ie E M) (hn1:1≤n) {r v':Value} {w0:World} (hE:0<ie) (hr:zya w 32 w0.heap.size r (zib n (M rs.length))) (hw0:∀k,vE.ownBlock=some k→k<w0.heap.size) (hB:B≤w0.heap.size) (hv:zlc w' 23 B 1 v' (rs++ [r]).length (rs++ [r])) (hg:w.grownBy w' vR.ownBlock) (hn:zlb w vR):
 FaW w' B vE v' (rs++ [r]) n ie E M∧Below B w w':=by
 obtain⟨hm,hb⟩:=h.m.push (hr.mono hB) hv hg hn
 refine⟨⟨h.e.grown hg hn (h.e.kindR h.m.ra),hm,fun j hj e=> ?_⟩,hb⟩
 rcases Nat.lt_or_ge j rs.length with hj2 | hj2
 ·rw[List.getElem_append_left hj2]at e
  exact h.dr j hj2 e
 ·obtain rfl:j=rs.length:=by simp at hj;omega
  have e1:(rs++ [r])[rs.length]'hj=r:=by simp
  rw[e1]at e
  obtain⟨g,k1,_,k3,_,_⟩:=hr.blk (by rw[zea];exact hn1)
  rw[k1]at e
  have:=hw0 g e.symm
  omega
end
def CellsP (w:World) (xs:List Value) (n:Nat) (f:Nat→Rat) (S:Nat→Prop):Prop:=
 ∀j,j<n→S j→∃a b,xs[j*3]? =some (.bool (decide (f j<0)))∧xs[j*3+1]? =some a∧xs[j*3+2]? =some b∧zjb w a (f j).num.natAbs∧zjb w b (f j).den
def zec (w:World) (e:TypeId) (B:Nat) (v:Value) (n:Nat) (f:Nat→Rat) (S:Nat→Prop):Prop:=∃xs,zlc w e B 3 v n xs∧CellsP w xs n f S
section
variable {w w':World} {e:TypeId} {B n:Nat} {v u:Value} {f:Nat→Rat} {S:Nat→Prop}
theorem zqb.ownR (h:zqb w e B v n):∃xs,zlc w e B 3 v n xs:=by
 obtain⟨g,cs,rfl,h1,h2⟩:=id h
 have hcl:cs.length=n*3:=h1.1
 refine⟨cs,h1,?_⟩
 intro g' hg' cur e' fz hc c hcc z
 rcases h1.2 with⟨h',_⟩ | ⟨g2,cap,cur2,h',hb,hg,_,_,hs,ht⟩
 ·cases h'
 ·injection h' with h4 h5 h6
  injection h4 with h4
  injection h4 with h4
  subst h4
  simp only[Value.ownBlock,Option.some.injEq]at hg'
  subst hg'
  rw[hc]at hg
  injection hg with hg
  injection hg with hg
  subst hg
  subst h6
  have hcur:cur.toList=cs:=by
   rw[←ht]
   refine(List.take_of_length_le ?_).symm
   simp only[Array.length_toList]
   omega
  rw[hcur]at hcc
  exact h2 c hcc z
theorem zec.start (h:zqb w e B v n) (f:Nat→Rat):zec w e B v n f (fun j=>j<0):=by
 obtain⟨xs,h1⟩:=h.ownR
 exact⟨xs,h1,fun j _ h=>absurd h (Nat.not_lt_zero _)⟩
theorem zec.sl (h:zec w e B v n f S):zgc v:=by obtain⟨xs,h1,_⟩:=h;exact h1.sl
theorem zec.len (h:zec w e B v n f S):slen v=n:=by obtain⟨xs,h1,_⟩:=h;exact h1.len
theorem zec.noLimb (h:zec w e B v n f S):zlb w v:=by obtain⟨xs,h1,_⟩:=h;exact h1.nl
theorem zec.block (h:zec w e B v n f S):∀k,v.ownBlock=some k→B≤k∧k<w.heap.size:=by obtain⟨xs,h1,_⟩:=h;exact h1.block
theorem zec.blk (h:zec w e B v n f S) (hn:0<n):∃g,v.ownBlock=some g∧(base v).block=g∧B≤g∧g<w.heap.size∧∀j,ptr v j=⟨g,j,none⟩:=by
 obtain⟨xs,h1,_⟩:=h
 exact h1.blk (by rw[h1.clen];omega)
theorem CellsP.grown {xs:List Value} (h2:CellsP w xs n f S) (hg:w.grownBy w' u.ownBlock) (hn:zlb w u):CellsP w' xs n f S:=fun j hj hs=>by
 obtain⟨a,b,e1,e2,e3,e4,e5⟩:=h2 j hj hs
 exact⟨a,b,e1,e2,e3,e4.grown hg hn,e5.grown hg hn⟩
theorem zec.grown (h:zec w e B v n f S) (hg:w.grownBy w' u.ownBlock) (hn:zlb w u) (hne:v.ownBlock=none∨v.ownBlock≠u.ownBlock):zec w' e B v n f S:=by
 obtain⟨xs,h1,h2⟩:=h
 exact⟨xs,h1.grown hg hne,h2.grown hg hn⟩
theorem zec.below (h:zec w e B v n f S) (hb:Below w.heap.size w w'):zec w' e B v n f S:=by
 obtain⟨xs,h1,h2⟩:=h
 refine⟨xs,h1.below hb,fun j hj hs=> ?_⟩
 obtain⟨a,b,e1,e2,e3,e4,e5⟩:=h2 j hj hs
 exact⟨a,b,e1,e2,e3,e4.below hb,e5.below hb⟩
theorem zec.slots (h:zec w e B v n f S) {i:Nat} (hi:i<n):∃c0 c1 c2,w.cell? (ptr v (i*3))=some c0∧w.cell? (ptr v (i*3+1))=some c1∧w.cell? (ptr v (i*3+2))=some c2∧
 w.frozen? (ptr v (i*3))=false∧w.frozen? (ptr v (i*3+1))=false∧w.frozen? (ptr v (i*3+2))=false∧
 ptr v (i*3)≠ptr v (i*3+1)∧ptr v (i*3)≠ptr v (i*3+2)∧ptr v (i*3+1)≠ptr v (i*3+2):=by
 obtain⟨g,_,_,_,_,hp⟩:=h.blk (by omega)
 obtain⟨xs,h1,_⟩:=h
 have hl:=h1.clen
 refine⟨_,_,_,h1.cell (i*3) (by omega),h1.cell (i*3+1) (by omega),h1.cell (i*3+2) (by omega),h1.frozen _ (by omega),h1.frozen _ (by omega),h1.frozen _ (by omega),?_,?_,?_⟩<;>(rw[hp,hp];intro h;injection h with h1 h2;omega)
theorem zec.put (h:zec w e B v n f S) {i:Nat} (hi:i<n) {x y z:Value} (hf:zqa w (.agg #[x,y,z]) (f i)):
 zec (((w.setCell (ptr v (i*3)) x).setCell (ptr v (i*3+1)) y).setCell (ptr v (i*3+2)) z) e B v n f (fun j=>S j∨j=i)∧
  w.grownBy (((w.setCell (ptr v (i*3)) x).setCell (ptr v (i*3+1)) y).setCell (ptr v (i*3+2)) z) v.ownBlock:=by
 obtain⟨xs,h1,h2⟩:=h
 obtain⟨a,b,ha,h4,h5⟩:=id hf
 injection ha with ha
 injection ha with ha
 simp only[List.cons.injEq,and_true]at ha
 obtain⟨rfl,rfl,rfl⟩:=ha
 have hl:=h1.clen
 have ny:∀k,y≠ .int .u32 k:=fun k=>by obtain⟨a1,n1,c1,e1,_⟩:=h4.v.sl;subst e1;simp
 have nz:∀k,z≠ .int .u32 k:=fun k=>by obtain⟨a1,n1,c1,e1,_⟩:=h5.v.sl;subst e1;simp
 obtain⟨s1,g1⟩:=h1.set1 (i*3) (by omega) (.bool (decide (f i<0))) (fun k=>by simp)
 obtain⟨s2,g2⟩:=s1.set1 (i*3+1) (by rw[List.length_set];omega) y ny
 obtain⟨s3,g3⟩:=s2.set1 (i*3+2) (by rw[List.length_set,List.length_set];omega) z nz
 have gg:=zle (zle g1 g2) g3
 refine⟨⟨_,s3,fun j hj hs=> ?_⟩,gg⟩
 by_cases hij:i=j
 ·subst hij
  refine⟨y,z,?_,?_,?_,?_,?_⟩
  ·rw[List.getElem?_set_ne (by omega),List.getElem?_set_ne (by omega),List.getElem?_set_self (by omega)]
  ·rw[List.getElem?_set_ne (by omega),List.getElem?_set_self (by rw[List.length_set];omega)]
  ·rw[List.getElem?_set_self (by rw[List.length_set,List.length_set];omega)]
  ·exact h4.grown gg h1.nl
  ·exact h5.grown gg h1.nl
 ·obtain⟨a,b,e1,e2,e3,e4,e5⟩:=h2 j hj (by
   rcases hs with hs | hs
   ·exact hs
   ·exact absurd hs.symm hij)
  refine⟨a,b,?_,?_,?_,e4.grown gg h1.nl,e5.grown gg h1.nl⟩
  ·rw[List.getElem?_set_ne (by omega),List.getElem?_set_ne (by omega),List.getElem?_set_ne (by omega)];exact e1
  ·rw[List.getElem?_set_ne (by omega),List.getElem?_set_ne (by omega),List.getElem?_set_ne (by omega)];exact e2
  ·rw[List.getElem?_set_ne (by omega),List.getElem?_set_ne (by omega),List.getElem?_set_ne (by omega)];exact e3
theorem zec.imp {T:Nat→Prop} (h:zec w e B v n f S) (hs:∀j,j<n→T j→S j):zec w e B v n f T:=by
 obtain⟨xs,h1,h2⟩:=h
 exact⟨xs,h1,fun j hj ht=>h2 j hj (hs j hj ht)⟩
theorem zec.succ {i:Nat} (h:zec w e B v n f (fun j=>j<i∨j=i)):zec w e B v n f (fun j=>j<i+1):=h.imp fun j _ h=>by omega
theorem zec.frRow (h:zec w e B v n f S) (hs:∀j,j<n→S j):zya w e B v (zib n f):=by
 obtain⟨xs,h1,h2⟩:=h
 refine⟨xs,by rw[zea];exact h1,fun j hj=> ?_⟩
 rw[ztb]
 rw[zea]at hj
 exact h2 j hj (hs j hj)
theorem zec.mono {B':Nat} (h:zec w e B v n f S) (hB:B'≤B):zec w e B' v n f S:=by
 obtain⟨xs,h1,h2⟩:=h
 exact⟨xs,h1.lower hB,h2⟩
end
section
variable {w w':World} {B n:Nat} {vO vX:Value} {rs:List Value} {qs:Nat→List Rat} {f:Nat→Rat} {S:Nat→Prop}
theorem zrj.putG (h:zrj w B vO rs n qs) {i j:Nat} (hi:i<rs.length) (hj:j<(qs i).length) {x y z:Value} {r:Rat} (hf:zqa w (.agg #[x,y,z]) r):
 zrj (((w.setCell (ptr rs[i] (j*3)) x).setCell (ptr rs[i] (j*3+1)) y).setCell (ptr rs[i] (j*3+2)) z) B vO rs n (fun k=>if k=i then(qs i).set j r else qs k)∧
  w.grownBy (((w.setCell (ptr rs[i] (j*3)) x).setCell (ptr rs[i] (j*3+1)) y).setCell (ptr rs[i] (j*3+2)) z) rs[i].ownBlock∧zlb w rs[i]:=by
 obtain⟨own,row,ap⟩:=h
 obtain⟨p1,p2⟩:=(row i hi).put (i:=j) hj hf
 have hnl:=(row i hi).noLimb
 obtain⟨ys,y1,y2⟩:=id (row i hi)
 refine⟨⟨own.grown p2 (own.kinds y1 (by decide)),fun k hk=> ?_,ap⟩,p2,hnl⟩
 by_cases hki:k=i
 ·subst hki;rw[if_pos rfl];exact p1
 ·rw[if_neg hki];exact(row k hk).grown p2 hnl (ap k i hk hi hki)
theorem zmk {n i:Nat} {f g:Nat→Rat} (h:∀k,k<n→k≠i→f k=g k):(zib n f).set i (g i)=zib n g:=by
 refine List.ext_getElem (by rw[List.length_set,zea,zea]) fun k h1 h2=> ?_
 rw[ztb]
 by_cases e:i=k
 ·subst e;rw[List.getElem_set_self]
 ·rw[List.getElem_set_ne e,ztb]
  exact h k (by rw[zea]at h2;exact h2) (fun e2=>e e2.symm)
structure MX (w:World) (B:Nat) (vO:Value) (rs:List Value) (n:Nat) (qs:Nat→List Rat) (vX:Value) (f:Nat→Rat) (S:Nat→Prop):Prop where
 t:zrj w B vO rs n qs
 x:zec w 32 B vX n f S
 ne:∀ (i:Nat) (hi:i<rs.length),rs[i].ownBlock=none∨rs[i].ownBlock≠vX.ownBlock
 sz:B≤w.heap.size
theorem MX.below (h:MX w B vO rs n qs vX f S) (hb:Below w.heap.size w w'):MX w' B vO rs n qs vX f S:=⟨h.t.below hb,h.x.below hb,h.ne,Nat.le_trans h.sz hb.size⟩
theorem MX.congr {p:Nat→List Rat} (h:MX w B vO rs n qs vX f S) (hpq:∀i,i<n→qs i=p i):MX w B vO rs n p vX f S:=⟨h.t.congr hpq,h.x,h.ne,h.sz⟩
theorem MX.putX (h:MX w B vO rs n qs vX f S) {i:Nat} (hi:i<n) {x y z:Value} (hf:zqa w (.agg #[x,y,z]) (f i)):
 MX (((w.setCell (ptr vX (i*3)) x).setCell (ptr vX (i*3+1)) y).setCell (ptr vX (i*3+2)) z) B vO rs n qs vX f (fun j=>S j∨j=i)∧
  Below B w (((w.setCell (ptr vX (i*3)) x).setCell (ptr vX (i*3+1)) y).setCell (ptr vX (i*3+2)) z):=by
 obtain⟨t,x',ne,sz⟩:=h
 obtain⟨p1,p2⟩:=x'.put hi hf
 have hnl:=x'.noLimb
 obtain⟨ys,y1,y2⟩:=id x'
 have hb:=zna p2 sz (fun k hk=>(x'.block k hk).1)
 refine⟨⟨⟨t.own.grown p2 (t.own.kinds y1 (by decide)),fun k hk=>(t.row k hk).grown p2 hnl (ne k hk),t.ap⟩,p1,ne,Nat.le_trans sz hb.size⟩,hb⟩
theorem MX.set (h:MX w B vO rs n qs vX f S) {i:Nat} (hi:i<rs.length) {v':Value} {q:List Rat} (hv:zya w' 32 B v' q) (hg:w.grownBy w' rs[i].ownBlock) (hn:zlb w rs[i]) (hob:v'.ownBlock=rs[i].ownBlock∨v'.ownBlock=some w.heap.size):
 MX (w'.setCell (ptr vO i) v') B vO (rs.set i v') n (fun k=>if k=i then q else qs k) vX f S∧Below B w (w'.setCell (ptr vO i) v'):=by
 have hX:vX.ownBlock=none∨vX.ownBlock≠rs[i].ownBlock:=by
  rcases h.ne i hi with h1 | h1
  ·cases hx:vX.ownBlock with
   | none=>exact Or.inl rfl
   | some g=>exact Or.inr (by rw[h1];intro e;cases e)
  ·exact Or.inr (fun e=>h1 e.symm)
 obtain⟨s1,s2⟩:=h.t.set hi h.sz hv hg hn hob
 obtain⟨ys,y1,y2⟩:=id (h.t.row i hi)
 have own':=h.t.own.grown hg (h.t.own.kinds y1 (by decide))
 obtain⟨_,c2⟩:=own'.set1 i hi v' (fun z e=>by obtain⟨a1,a2,a3,e1,_⟩:=hv.sl;rw[e1]at e;cases e)
 have hx1:=h.x.grown hg hn hX
 obtain⟨zs,z1,z2⟩:=id hx1
 have hx2:=hx1.grown c2 own'.nl (z1.kinds own' (by decide))
 refine⟨⟨s1,hx2,fun k hk=> ?_,Nat.le_trans h.sz s2.size⟩,s2⟩
 have hk0:k<rs.length:=by simpa using hk
 by_cases hki:k=i
 ·subst hki
  rw[List.getElem_set_self]
  rcases hob with h1 | h1
  ·rw[h1];exact h.ne k hi
  ·rw[h1]
   refine Or.inr fun e=> ?_
   have:=(h.x.block _ e.symm).2
   omega
 ·rw[List.getElem_set_ne (fun e=>hki e.symm)]
  exact h.ne k hk0
theorem MX.put (h:MX w B vO rs n qs vX f S) {i j:Nat} (hi:i<rs.length) (hj:j<(qs i).length) {x y z:Value} {r:Rat} (hf:zqa w (.agg #[x,y,z]) r):
 MX (((w.setCell (ptr rs[i] (j*3)) x).setCell (ptr rs[i] (j*3+1)) y).setCell (ptr rs[i] (j*3+2)) z) B vO rs n (fun k=>if k=i then(qs i).set j r else qs k) vX f S∧
  Below B w (((w.setCell (ptr rs[i] (j*3)) x).setCell (ptr rs[i] (j*3+1)) y).setCell (ptr rs[i] (j*3+2)) z):=by
 obtain⟨p1,p2,p3⟩:=h.t.putG hi hj hf
 have hX:vX.ownBlock=none∨vX.ownBlock≠rs[i].ownBlock:=by
  rcases h.ne i hi with h1 | h1
  ·cases hx:vX.ownBlock with
   | none=>exact Or.inl rfl
   | some g=>exact Or.inr (by rw[h1];intro e;cases e)
  ·exact Or.inr (fun e=>h1 e.symm)
 have hb:=zna p2 h.sz (fun k hk=>((h.t.row i hi).block k hk).1)
 exact⟨⟨p1,h.x.grown p2 p3 hX,h.ne,Nat.le_trans h.sz hb.size⟩,hb⟩
theorem MX.matF (h:MX w B vO rs n qs vX f S) {A:Mx} (hq:∀i,i<n→qs i=zib n (A i)):zam w vO n n A:=⟨h.t.own.sl,h.t.own.len,fun k hk=>by
 have hk2:k<rs.length:=by rw[h.t.rl];exact hk
 refine⟨rs[k],h.t.own.cell k hk2,?_⟩
 have h1:=(h.t.row k hk2).fracs
 rwa[hq k hk]at h1⟩
end
def mkF (w:World) (e:TypeId) (n:Nat):World:=w.alloc (.cells (madeCells #[Value.bool false, .slice none 0 0, .slice none 0 0] (n*3)) e)
theorem mkF_size (w:World) (e:TypeId) (n:Nat):(mkF w e n).heap.size=w.heap.size+1:=by simp[mkF]
theorem zhf (w:World) (e:TypeId) (n:Nat):Below w.heap.size w (mkF w e n):=zca w _
theorem zqb.mkF (w:World) (e:TypeId) (n:Nat) (hn:n≤128):zqb (mkF w e n) e w.heap.size (.slice (some ⟨w.heap.size,0,none⟩) n n) n:=by
 have:=World.ownsRow_lit (size:=3) (base:=w.heap.size) w (madeCells #[Value.bool false, .slice none 0 0, .slice none 0 0] (n*3)) (e:=e) n (Nat.le_refl _) (by simp[maxLen];omega) (size_madeCells _ _)
 refine⟨w.heap.size,_,rfl,this,fun x hx z=> ?_⟩
 have hx2:x∈(madeCells #[Value.bool false, .slice none 0 0, .slice none 0 0] (n*3)).toList:=hx
 unfold madeCells at hx2
 simp only[Array.toList_map,List.mem_map,Array.mem_toList_iff]at hx2
 obtain⟨k,hk,rfl⟩:=hx2
 have h7:k%3<3:=Nat.mod_lt _ (by decide)
 have h8:(#[Value.bool false, .slice none 0 0, .slice none 0 0]:Array Value).size=3:=rfl
 rw[h8]
 rcases(show k%3=0∨k%3=1∨k%3=2 by omega)with h9 | h9 | h9<;>rw[h9]<;>simp
theorem zqb.mkFB (w:World) (e:TypeId) (n a:Nat) (ha:w.heap.size=a) (hn:n≤128):zqb (Go.Proofs.Ytlpdkbmmbdfoiaa.mkF w e n) e a (.slice (some ⟨a,0,none⟩) n n) n:=by
 subst ha;exact zqb.mkF w e n hn
theorem run_mkF {P:Program} (t e:TypeId) (i:TypeInfo) (h1:P.underlying t=some (.slice e)) (h2:P.info? e=some i) (h3:i.zero=some (.agg #[.bool false, .slice none 0 0, .slice none 0 0])) (h4:i.size=3) (h5:i.bytes=56)
 (n:Nat) (hn:n≤128) (w:World):(Instr.makeSlice t (.int .i64 (n:Int)) (.int .i64 (n:Int))).run P w= .ok (.slice (some ⟨w.heap.size,0,none⟩) n n) (mkF w e n):=by
 have hb2:(i.bytes:Int)*(n:Int)≤281474976710656:=by rw[h5];omega
 have hr:=run_make (P:=P) w t e i _ h1 h2 h3 .i64 .i64 n n (by omega) (Int.le_refl _) hb2 (by omega)
 simp only[Int.toNat_natCast]at hr
 rw[hr,h4]
 rfl
@[go_sem] theorem cell_mkF (w : World) (e : TypeId) (n : Nat) (p : Addr) (hp : p.block < w.heap.size) : (mkF w e n).cell? p = w.cell? p := (zhf w e n).cell hp
@[go_sem] theorem frozen_mkF (w : World) (e : TypeId) (n : Nat) (p : Addr) (hp : p.block < w.heap.size) : (mkF w e n).frozen? p = w.frozen? p := (zhf w e n).frozen hp
@[go_sem] theorem size_mkF (w : World) (e : TypeId) (n : Nat) : (mkF w e n).heap.size = w.heap.size + 1 := mkF_size w e n
structure BX (w:World) (B:Nat) (vM:Value) (rs:List Value) (n:Nat) (qs:Nat→List Rat) (vR:Value) (f:Nat→Rat) (vS:Value) (g:Nat→Rat) (k:Nat):Prop where
 t:zrj w B vM rs n qs
 r:zec w 32 B vR n f (fun j=>j<k)
 s:zec w 32 B vS n g (fun j=>j<k)
 nr:∀ (i:Nat) (hi:i<rs.length),rs[i].ownBlock=none∨rs[i].ownBlock≠vR.ownBlock
 ns:∀ (i:Nat) (hi:i<rs.length),rs[i].ownBlock=none∨rs[i].ownBlock≠vS.ownBlock
 rs:vR.ownBlock=none∨vR.ownBlock≠vS.ownBlock
 sz:B≤w.heap.size
section
variable {w w':World} {B n k:Nat} {vM vR vS:Value} {rs:List Value} {qs:Nat→List Rat} {f g:Nat→Rat}
theorem zpf {a b:Value} (h:a.ownBlock=none∨a.ownBlock≠b.ownBlock):b.ownBlock=none∨b.ownBlock≠a.ownBlock:=by
 cases hb:b.ownBlock with
 | none=>exact Or.inl rfl
 | some x=>
   refine Or.inr fun e=> ?_
   rcases h with h | h
   ·rw[h]at e;cases e
   ·exact h (by rw[hb];exact e.symm)
theorem BX.below (h:BX w B vM rs n qs vR f vS g k) (hb:Below w.heap.size w w'):BX w' B vM rs n qs vR f vS g k:=
 ⟨h.t.below hb,h.r.below hb,h.s.below hb,h.nr,h.ns,h.rs,Nat.le_trans h.sz hb.size⟩
theorem BX.put (h:BX w B vM rs n qs vR f vS g k) (hk:k<n) {r:Value} {q:List Rat} (hr:zya w 32 B r q) (h1:∀ (i:Nat) (hi:i<rs.length),rs[i].ownBlock=none∨rs[i].ownBlock≠r.ownBlock) (h2:r.ownBlock=none∨r.ownBlock≠vR.ownBlock) (h3:r.ownBlock=none∨r.ownBlock≠vS.ownBlock)
 {x y z x' y' z':Value} (hf:zqa w (.agg #[x,y,z]) (f k)) (hg:zqa w (.agg #[x',y',z']) (g k)):
 let w1:=w.setCell (ptr vM k) r
 let w2:=((w1.setCell (ptr vR (k*3)) x).setCell (ptr vR (k*3+1)) y).setCell (ptr vR (k*3+2)) z
 let w3:=((w2.setCell (ptr vS (k*3)) x').setCell (ptr vS (k*3+1)) y').setCell (ptr vS (k*3+2)) z'
 BX w3 B vM (rs.set k r) n (fun i=>if i=k then q else qs i) vR f vS g (k+1)∧Below B w w3∧zec w1 32 B vR n f (fun j=>j<k)∧zec w2 32 B vS n g (fun j=>j<k):=by
 intro w1 w2 w3
 obtain⟨t,r',s',nr,ns,ers,sz⟩:=h
 have hkr:k<rs.length:=by rw[t.rl];exact hk
 obtain⟨p1,g1⟩:=t.own.set1 k hkr r (fun z e=>by obtain⟨a1,a2,a3,e1,_⟩:=hr.sl;rw[e1]at e;cases e)
 have hnM:=t.own.nl
 have kM:∀ {v:Value} {m:Nat} {f':Nat→Rat} {S:Nat→Prop},zec w 32 B v m f' S→v.ownBlock=none∨v.ownBlock≠vM.ownBlock:=fun h=>by
  obtain⟨ys,y1,y2⟩:=id h
  exact y1.kinds t.own (by decide)
 have kF:∀ {v:Value} {q':List Rat},zya w 32 B v q'→v.ownBlock=none∨v.ownBlock≠vM.ownBlock:=fun h=>by
  obtain⟨ys,y1,y2⟩:=id h
  exact y1.kinds t.own (by decide)
 have r1:=r'.grown g1 hnM (kM r')
 have s1:=s'.grown g1 hnM (kM s')
 have t1:zrj w1 B vM (rs.set k r) n (fun i=>if i=k then q else qs i):=⟨p1,fun i hi=>by
  have hi0:i<rs.length:=by simpa using hi
  by_cases e:i=k
  ·subst e
   rw[List.getElem_set_self,if_pos rfl]
   exact hr.grown g1 hnM (kF hr)
  ·rw[List.getElem_set_ne (fun e'=>e e'.symm),if_neg e]
   exact(t.row i hi0).grown g1 hnM (kF (t.row i hi0)),fun i j hi hj hij=>by
  have hi0:i<rs.length:=by simpa using hi
  have hj0:j<rs.length:=by simpa using hj
  by_cases e:i=k
  ·subst e
   rw[List.getElem_set_self,List.getElem_set_ne hij]
   exact zpf (h1 j hj0)
  ·rw[List.getElem_set_ne (fun e'=>e e'.symm)]
   by_cases e2:j=k
   ·subst e2
    rw[List.getElem_set_self]
    exact h1 i hi0
   ·rw[List.getElem_set_ne (fun e'=>e2 e'.symm)]
    exact t.ap i j hi0 hj0 hij⟩
 have nr1:∀ (i:Nat) (hi:i<(rs.set k r).length),(rs.set k r)[i].ownBlock=none∨(rs.set k r)[i].ownBlock≠vR.ownBlock:=fun i hi=>by
  have hi0:i<rs.length:=by simpa using hi
  by_cases e:i=k
  ·subst e;rw[List.getElem_set_self];exact h2
  ·rw[List.getElem_set_ne (fun e'=>e e'.symm)];exact nr i hi0
 have ns1:∀ (i:Nat) (hi:i<(rs.set k r).length),(rs.set k r)[i].ownBlock=none∨(rs.set k r)[i].ownBlock≠vS.ownBlock:=fun i hi=>by
  have hi0:i<rs.length:=by simpa using hi
  by_cases e:i=k
  ·subst e;rw[List.getElem_set_self];exact h3
  ·rw[List.getElem_set_ne (fun e'=>e e'.symm)];exact ns i hi0
 have hf1:=hf.grown g1 hnM
 have hg1:=hg.grown g1 hnM
 obtain⟨r2,g2⟩:=r1.put hk hf1
 have hnR:=r1.noLimb
 have kR:vM.ownBlock=none∨vM.ownBlock≠vR.ownBlock:=zpf (kM r')
 have t2:zrj w2 B vM (rs.set k r) n (fun i=>if i=k then q else qs i):=⟨t1.own.grown g2 kR,fun i hi=>(t1.row i hi).grown g2 hnR (nr1 i hi),t1.ap⟩
 have s2:=s1.grown g2 hnR (zpf ers)
 have hg2:=hg1.grown g2 hnR
 obtain⟨s3,g3⟩:=s2.put hk hg2
 have hnS:=s2.noLimb
 have kS:vM.ownBlock=none∨vM.ownBlock≠vS.ownBlock:=zpf (kM s')
 have t3:zrj w3 B vM (rs.set k r) n (fun i=>if i=k then q else qs i):=⟨t2.own.grown g3 kS,fun i hi=>(t2.row i hi).grown g3 hnS (ns1 i hi),t2.ap⟩
 have r3:=r2.grown g3 hnS ers
 have b1:=zna g1 sz (fun k hk=>(t.own.block k hk).1)
 have b2:=zna g2 (Nat.le_trans sz b1.size) (fun k hk=>(r1.block k hk).1)
 have b3:=zna g3 (Nat.le_trans sz (Nat.le_trans b1.size b2.size)) (fun k hk=>(s2.block k hk).1)
 have hb:=(b1.trans b2).trans b3
 exact⟨⟨t3,r3.succ,s3.succ,nr1,ns1,ers,Nat.le_trans sz hb.size⟩,hb,r1,s2⟩
theorem BX.matF (h:BX w B vM rs n qs vR f vS g k) {A:Mx} (hq:∀i,i<n→qs i=zib n (A i)):zam w vM n n A:=⟨h.t.own.sl,h.t.own.len,fun k hk=>by
 have hk2:k<rs.length:=by rw[h.t.rl];exact hk
 refine⟨rs[k],h.t.own.cell k hk2,?_⟩
 have h1:=(h.t.row k hk2).fracs
 rwa[hq k hk]at h1⟩
end
structure TMv (bt:Nat) (w w':World):Prop where
 size:w.heap.size≤w'.heap.size
 row:∀g,g≠bt→g<w.heap.size→w'.heap[g]? =w.heap[g]?
 cell:∀p x,w.cell? p=some x→(∀z,x≠ .int .i64 z)→w'.cell? p=some x
 frozen:∀p,p.block<w.heap.size→w'.frozen? p=w.frozen? p
 below:∀B,B≤bt→B≤w.heap.size→Below B w w'
theorem TMv.refl (bt:Nat) (w:World):TMv bt w w:=⟨Nat.le_refl _,fun _ _ _=>rfl,fun _ _ h _=>h,fun _ _=>rfl,fun _ _ _=>Below.refl _ _⟩
theorem TMv.trans {bt:Nat} {a b c:World} (h:TMv bt a b) (k:TMv bt b c):TMv bt a c:=
 ⟨Nat.le_trans h.size k.size,fun g h1 h2=>(k.row g h1 (Nat.lt_of_lt_of_le h2 h.size)).trans (h.row g h1 h2),fun p x hp hx=>k.cell p x (h.cell p x hp hx) hx,
  fun p hp=>(k.frozen p (Nat.lt_of_lt_of_le hp h.size)).trans (h.frozen p hp),fun B h1 h2=>(h.below B h1 h2).trans (k.below B h1 (Nat.le_trans h2 h.size))⟩
theorem TMv.of_below {bt:Nat} {w w':World} (h:Below w.heap.size w w'):TMv bt w w':=
 ⟨h.size,fun g _ h2=>h.block g h2,fun p x hp _=>zba h hp,fun p hp=>h.frozen hp,fun B _ h2=>h.mono h2⟩
theorem TMv.of_ticks {bt a:Nat} {l:List Nat} {w w':World} (ht:znb w bt l a) (h:zyl bt w w'):TMv bt w w':=by
 refine⟨h.size,fun g h1 h2=> ?_,fun p x hp hx=>h.cell ht.c1 hp hx,fun p hp=>h.frozen hp,fun B h1 h2=>h.below h1 h2⟩
 rcases h with⟨k,rfl⟩ | ⟨k,k',a',rfl⟩
 ·exact(zka (B:=w.heap.size) w k).block g h2
 ·have h3:=(zka (B:=w.heap.size) w k)
  rw[(zka (B:=((w.drewN k).setCell ⟨bt,1,none⟩ (.int .i64 a')).heap.size) _ k').block g (by simp[World.setCell];have:=h3.size;omega)]
  rw[Below.heap_setCell _ _ _ _ (by simp;omega)]
  exact h3.block g h2
theorem TMv.moves {bt B:Nat} {w w':World} (h:TMv bt w w') (hB:bt<B):zhb B w w':=
 ⟨h.size,fun g h1 h2=>h.row g (by omega) h2,fun p z hp=>h.cell p _ hp (fun z=>by simp)⟩
theorem zqa.tmv {bt:Nat} {w w':World} {v:Value} {q:Rat} (h:zqa w v q) (hm:TMv bt w w'):zqa w' v q:=h.moves (hm.moves (Nat.lt_succ_self bt))
theorem C3.tmv {bt b:Nat} {w w':World} {v0 v1 v2:Value} (h:C3 w b v0 v1 v2) (hm:TMv bt w w') (n0:∀z,v0≠ .int .i64 z) (n1:∀z,v1≠ .int .i64 z) (n2:∀z,v2≠ .int .i64 z):C3 w' b v0 v1 v2:=
 ⟨Nat.lt_of_lt_of_le h.lt hm.size,hm.cell _ _ h.c0 n0,hm.cell _ _ h.c1 n1,hm.cell _ _ h.c2 n2,by rw[hm.frozen _ h.lt];exact h.f0,by rw[hm.frozen _ h.lt];exact h.f1,by rw[hm.frozen _ h.lt];exact h.f2⟩
theorem C4.tmv {bt b:Nat} {w w':World} {v0 v1 v2 v3:Value} (h:C4 w b v0 v1 v2 v3) (hm:TMv bt w w') (n0:∀z,v0≠ .int .i64 z) (n1:∀z,v1≠ .int .i64 z) (n2:∀z,v2≠ .int .i64 z) (n3:∀z,v3≠ .int .i64 z):C4 w' b v0 v1 v2 v3:=
 ⟨Nat.lt_of_lt_of_le h.lt hm.size,hm.cell _ _ h.c0 n0,hm.cell _ _ h.c1 n1,hm.cell _ _ h.c2 n2,hm.cell _ _ h.c3 n3,by rw[hm.frozen _ h.lt];exact h.f0,by rw[hm.frozen _ h.lt];exact h.f1,by rw[hm.frozen _ h.lt];exact h.f2,by rw[hm.frozen _ h.lt];exact h.f3⟩
theorem zvf.tmv {bt a a' B:Nat} {l:List Nat} {w w':World} (h:zvf w bt l B a) (hm:TMv bt w w') (ht:znb w' bt l a'):zvf w' bt l B a':=by
 refine⟨ht,fun v hv j hj=> ?_⟩
 obtain⟨v0,hv0⟩:∃v0,w.cell? ⟨bt,0,none⟩=some v0∧∀z,v0≠ .int .i64 z:=by
  obtain⟨v,hv,hc⟩:=h.1.ex
  exact⟨v,hv,(zhc.sl hc).noInt⟩
 have h1:=hm.cell _ _ hv0.1 hv0.2
 rw[hv]at h1
 injection h1 with h1
 subst h1
 exact h.2 _ hv0.1 j hj
theorem C4.set1 {w:World} {b:Nat} {v0 v1 v2 v3:Value} (h:C4 w b v0 v1 v2 v3) (u:Value):C4 (w.setCell ⟨b,1,none⟩ u) b v0 u v2 v3:=by
 obtain⟨lt,c0,c1,c2,c3,f0,f1,f2,f3⟩:=h
 refine⟨by simpa [World.setCell]using lt,?_,World.cell?_setCell_same _ _ _ c1,?_,?_,?_,?_,?_,?_⟩
 ·rw[World.cell?_setCell_other _ _ _ _ (by simp)];exact c0
 ·rw[World.cell?_setCell_other _ _ _ _ (by simp)];exact c2
 ·rw[World.cell?_setCell_other _ _ _ _ (by simp)];exact c3
 ·rw[World.frozen?_setCell];exact f0
 ·rw[World.frozen?_setCell];exact f1
 ·rw[World.frozen?_setCell];exact f2
 ·rw[World.frozen?_setCell];exact f3
theorem C4.set3 {w:World} {b:Nat} {v0 v1 v2 v3:Value} (h:C4 w b v0 v1 v2 v3) (u:Value):C4 (w.setCell ⟨b,3,none⟩ u) b v0 v1 v2 u:=by
 obtain⟨lt,c0,c1,c2,c3,f0,f1,f2,f3⟩:=h
 refine⟨by simpa [World.setCell]using lt,?_,?_,?_,World.cell?_setCell_same _ _ _ c3,?_,?_,?_,?_⟩
 ·rw[World.cell?_setCell_other _ _ _ _ (by simp)];exact c0
 ·rw[World.cell?_setCell_other _ _ _ _ (by simp)];exact c1
 ·rw[World.cell?_setCell_other _ _ _ _ (by simp)];exact c2
 ·rw[World.frozen?_setCell];exact f0
 ·rw[World.frozen?_setCell];exact f1
 ·rw[World.frozen?_setCell];exact f2
 ·rw[World.frozen?_setCell];exact f3
structure LwT (w:World) (bt:Nat) (l:List Nat) (B b5:Nat) (vs ve vr:Value) (rs:List Value) (S E:List Rat) (R:List (List Rat)):Prop where
 tape:∃a,zvf w bt l B a
 box:C4 w b5 (.string { data:=#[] }) vs vr ve
 st:zya w 32 B vs S
 ex:zya w 32 B ve E
 ra:zlc w 23 B 1 vr rs.length rs
 rl:rs.length=R.length
 rows:∀ (j:Nat) (h:j<rs.length) (h':j<R.length),zya w 32 B rs[j] R[j]∧(rs[j].ownBlock=none∨rs[j].ownBlock≠vs.ownBlock)∧(rs[j].ownBlock=none∨rs[j].ownBlock≠ve.ownBlock)
 se:vs.ownBlock=none∨vs.ownBlock≠ve.ownBlock
 sz:B≤w.heap.size
 bt5:bt<B∧b5<B∧b5≠bt
section
variable {w w':World} {bt:Nat} {l:List Nat} {B b5:Nat} {vs ve vr:Value} {rs:List Value} {S E:List Rat} {R:List (List Rat)}
theorem LwT.of (h:LwT w bt l B b5 vs ve vr rs S E R) (hm:zhb B w w') (ht:∃a,zvf w' bt l B a) (hb:C4 w' b5 (.string { data:=#[] }) vs vr ve):LwT w' bt l B b5 vs ve vr rs S E R:=
 ⟨ht,hb,h.st.moves hm (Nat.le_refl _),h.ex.moves hm (Nat.le_refl _),h.ra.moves hm (Nat.le_refl _),h.rl,fun j h1 h2=>⟨(h.rows j h1 h2).1.moves hm (Nat.le_refl _),(h.rows j h1 h2).2⟩,h.se,Nat.le_trans h.sz hm.size,h.bt5⟩
theorem LwT.tmv (h:LwT w bt l B b5 vs ve vr rs S E R) {a':Nat} (hm:TMv bt w w') (ht:znb w' bt l a'):LwT w' bt l B b5 vs ve vr rs S E R:=by
 obtain⟨a,h0⟩:=h.tape
 exact h.of (hm.moves h.bt5.1) ⟨a',h0.tmv hm ht⟩ (h.box.tmv hm (fun z=>by simp) h.st.sl.noInt h.ra.sl.noInt h.ex.sl.noInt)
theorem LwT.below (h:LwT w bt l B b5 vs ve vr rs S E R) (hb:Below w.heap.size w w'):LwT w' bt l B b5 vs ve vr rs S E R:=by
 obtain⟨a,ht⟩:=h.tape
 exact h.of (zhb.below hb) ⟨a,ht.below hb⟩ (h.box.belowS hb)
theorem zyj {u v v':Value} {k:Nat} (h:u.ownBlock=none∨u.ownBlock≠v.ownBlock) (hb:∀g,u.ownBlock=some g→g<k) {k':Nat} (hk:k≤k') (hv:v'.ownBlock=v.ownBlock∨v'.ownBlock=some k'):u.ownBlock=none∨u.ownBlock≠v'.ownBlock:=by
 rcases h with h | h
 ·exact Or.inl h
 ·cases hu:u.ownBlock with
  | none=>exact Or.inl rfl
  | some g=>
    refine Or.inr ?_
    rcases hv with e | e
    ·rw[e,←hu];exact h
    ·rw[e]
     intro e2
     injection e2 with e2
     have:=hb g hu
     omega
theorem LwT.startG (h:LwT w bt l B b5 vs ve vr rs S E R) {q:Rat} {v':Value} {k:Nat} (hv:zya w' 32 B v' (S++ [q])) (hg:w.grownBy w' vs.ownBlock) (hn:zlb w vs) (hvb:v'.ownBlock=vs.ownBlock∨v'.ownBlock=some k) (hk:w.heap.size≤k):
 LwT (w'.setCell ⟨b5,1,none⟩ v') bt l B b5 v' ve vr rs (S++ [q]) E R∧Below B w w':=by
 obtain⟨⟨a,ht⟩,box,st,ex,ra,rl,rows,se,sz,b1,b2,b3⟩:=h
 have hb:=zid (B:=B) hg sz st.block
 have box':=box.below hb b2
 have hm:zhb B w' (w'.setCell ⟨b5,1,none⟩ v'):=zhb.set b2 box'.c1 st.sl.noLimb _
 obtain⟨xs,s1,s2⟩:=id st
 have hes:ve.ownBlock=none∨ve.ownBlock≠v'.ownBlock:=zyj (zpf se) (fun g hg=>(ex.block g hg).2) hk hvb
 refine⟨⟨⟨a,(ht.low hb b1).set (by exact b3) box'.c1 st.sl.noByte _⟩,box'.set1 _,hv.moves hm (Nat.le_refl _),(ex.grown hg hn (zpf se)).moves hm (Nat.le_refl _),(ra.grown hg (ra.kinds s1 (by decide))).moves hm (Nat.le_refl _),rl,fun j h1 h2=> ?_,zpf hes,Nat.le_trans sz (Nat.le_trans hb.size hm.size),b1,b2,b3⟩,hb⟩
 obtain⟨k1,k2,k3⟩:=rows j h1 h2
 exact⟨(k1.grown hg hn k2).moves hm (Nat.le_refl _),zyj k2 (fun g hg=>(k1.block g hg).2) hk hvb,k3⟩
theorem LwT.exitG (h:LwT w bt l B b5 vs ve vr rs S E R) {q:Rat} {v':Value} {k:Nat} (hv:zya w' 32 B v' (E++ [q])) (hg:w.grownBy w' ve.ownBlock) (hn:zlb w ve) (hvb:v'.ownBlock=ve.ownBlock∨v'.ownBlock=some k) (hk:w.heap.size≤k):
 LwT (w'.setCell ⟨b5,3,none⟩ v') bt l B b5 vs v' vr rs S (E++ [q]) R∧Below B w w':=by
 obtain⟨⟨a,ht⟩,box,st,ex,ra,rl,rows,se,sz,b1,b2,b3⟩:=h
 have hb:=zid (B:=B) hg sz ex.block
 have box':=box.below hb b2
 have hm:zhb B w' (w'.setCell ⟨b5,3,none⟩ v'):=zhb.set b2 box'.c3 ex.sl.noLimb _
 obtain⟨xs,s1,s2⟩:=id ex
 refine⟨⟨⟨a,(ht.low hb b1).set (by exact b3) box'.c3 ex.sl.noByte _⟩,box'.set3 _,(st.grown hg hn se).moves hm (Nat.le_refl _),hv.moves hm (Nat.le_refl _),(ra.grown hg (ra.kinds s1 (by decide))).moves hm (Nat.le_refl _),rl,fun j h1 h2=> ?_,zyj se (fun g hg=>(st.block g hg).2) hk hvb,Nat.le_trans sz (Nat.le_trans hb.size hm.size),b1,b2,b3⟩,hb⟩
 obtain⟨k1,k2,k3⟩:=rows j h1 h2
 exact⟨(k1.grown hg hn k3).moves hm (Nat.le_refl _),k2,zyj k3 (fun g hg=>(k1.block g hg).2) hk hvb⟩
theorem LwT.ratesG (h:LwT w bt l B b5 vs ve vr rs S E R) {q:List Rat} {r v':Value} (hr:zya w 32 B r q) (hrs:r.ownBlock=none∨r.ownBlock≠vs.ownBlock) (hre:r.ownBlock=none∨r.ownBlock≠ve.ownBlock) (hv:zlc w' 23 B 1 v' (rs++ [r]).length (rs++ [r])) (hg:w.grownBy w' vr.ownBlock) (hn:zlb w vr):
 LwT (w'.setCell ⟨b5,2,none⟩ v') bt l B b5 vs ve v' (rs++ [r]) S E (R++ [q])∧Below B w w':=by
 obtain⟨⟨a,ht⟩,box,st,ex,ra,rl,rows,se,sz,b1,b2,b3⟩:=h
 have hb:=zid (B:=B) hg sz ra.block
 have box':=box.below hb b2
 have hm:zhb B w' (w'.setCell ⟨b5,2,none⟩ v'):=zhb.set b2 box'.c2 ra.sl.noLimb _
 have kF:∀ {v:Value} {p:List Rat},zya w 32 B v p→v.ownBlock=none∨v.ownBlock≠vr.ownBlock:=fun h=>by
  obtain⟨ys,y1,y2⟩:=id h
  exact y1.kinds ra (by decide)
 refine⟨⟨⟨a,(ht.low hb b1).set (by exact b3) box'.c2 ra.sl.noByte _⟩,box'.set2 _,(st.grown hg hn (kF st)).moves hm (Nat.le_refl _),(ex.grown hg hn (kF ex)).moves hm (Nat.le_refl _),hv.moves hm (Nat.le_refl _),by simp[rl],fun j h1 h2=> ?_,se,Nat.le_trans sz (Nat.le_trans hb.size hm.size),b1,b2,b3⟩,hb⟩
 rcases Nat.lt_or_ge j rs.length with hj | hj
 ·have hj2:j<R.length:=by omega
  rw[List.getElem_append_left hj,List.getElem_append_left hj2]
  obtain⟨k1,k2⟩:=rows j hj hj2
  exact⟨(k1.grown hg hn (kF k1)).moves hm (Nat.le_refl _),k2⟩
 ·obtain rfl:j=rs.length:=by simp at h1;omega
  have e1:(rs++ [r])[rs.length]'h1=r:=by simp
  have e2:(R++ [q])[rs.length]'h2=q:=by simp[rl]
  rw[e1,e2]
  exact⟨(hr.grown hg hn (kF hr)).moves hm (Nat.le_refl _),hrs,hre⟩
end
end Go.Proofs.Ytlpdkbmmbdfoiaa
