/- Lemmas. -/
import Derived.Test.YtkpedaflofejnaaGreatMPr1
set_option linter.unusedVariables false
set_option linter.unusedSimpArgs false
namespace Go.Proofs.YtkpedaflofejnaaGreat
open Go.RowKit
structure TMv (bt:Nat) (w w':World):Prop where
 size:w.heap.size<=w'.heap.size
 row:∀g,g≠bt->g<w.heap.size->w'.heap[g]? =w.heap[g]?
 cell:∀p x,w.cell? p=some x->(∀z,x≠ .int .i64 z)->w'.cell? p=some x
 frozen:∀p,p.block<w.heap.size->w'.frozen? p=w.frozen? p
 bw:∀B,B<=bt->B<=w.heap.size->Below B w w'
theorem TMv.refl (bt:Nat) (w:World):TMv bt w w:=⟨zLR _,λ _ _ _=>rfl,λ _ _ h _=>h,λ _ _=>rfl,λ _ _ _=>zBR _ _⟩
theorem TMv.trans {bt:Nat} {a b c:World} (h:TMv bt a b) (k:TMv bt b c):TMv bt a c:=
 ⟨zLT h.size k.size,λ g h1 h2=>(k.row g h1 (zLM h2 h.size)).trans (h.row g h1 h2),λ p x hp hx=>k.cell p x (h.cell p x hp hx) hx,
  λ p hp=>(k.frozen p (zLM hp h.size)).trans (h.frozen p hp),λ B h1 h2=>(h.bw B h1 h2).trans (k.bw B h1 (zLT h2 h.size))⟩
theorem TMv.of_below {bt:Nat} {w w':World} (h:Below w.heap.size w w'):TMv bt w w':=
 ⟨h.size,λ g _ h2=>h.block g h2,λ p x hp _=>zca h hp,λ p hp=>h.frozen hp,λ B _ h2=>h.mono h2⟩
theorem TMv.of_ticks {bt a:Nat} {l:List Nat} {w w':World} (ht:zkb w bt l a) (h:zpo bt w w'):TMv bt w w':=by
 refine⟨h.size,λ g h1 h2=> ?_,λ p x hp hx=>h.cell ht.c1 hp hx,λ p hp=>h.frozen hp,λ B h1 h2=>h.bw h1 h2⟩;rcases h with⟨k,rfl⟩ | ⟨k,k',a',rfl⟩
 ·exact(zia (B:=w.heap.size) w k).block g h2
 ·have h3:=(zia (B:=w.heap.size) w k);rw[(zia (B:=((w.drewN k).setCell ⟨bt,1,none⟩ (.int .i64 a')).heap.size) _ k').block g (by simp[World.setCell];have:=h3.size;omega)];rw[Below.heap_setCell _ _ _ _ (by simp;omega)];exact h3.block g h2
theorem TMv.moves {bt B:Nat} {w w':World} (h:TMv bt w w') (hB:bt<B):zya B w w':=
 ⟨h.size,λ g h1 h2=>h.row g zO h2,λ p z hp=>h.cell p _ hp zZ⟩
theorem zna.tmv {bt:Nat} {w w':World} {v:Value} {q:Rat} (h:zna w v q) (hm:TMv bt w w'):zna w' v q:=h.moves (hm.moves (zSS bt))
theorem C3.tmv {bt b:Nat} {w w':World} {v0 v1 v2:Value} (h:C3 w b v0 v1 v2) (hm:TMv bt w w') (n0:∀z,v0≠ .int .i64 z) (n1:∀z,v1≠ .int .i64 z) (n2:∀z,v2≠ .int .i64 z):C3 w' b v0 v1 v2:=
 ⟨zLM h.lt hm.size,hm.cell _ _ h.c0 n0,hm.cell _ _ h.c1 n1,hm.cell _ _ h.c2 n2,by rw[hm.frozen _ h.lt];exact h.f0,by rw[hm.frozen _ h.lt];exact h.f1,by rw[hm.frozen _ h.lt];exact h.f2⟩
theorem C4.tmv {bt b:Nat} {w w':World} {v0 v1 v2 v3:Value} (h:C4 w b v0 v1 v2 v3) (hm:TMv bt w w') (n0:∀z,v0≠ .int .i64 z) (n1:∀z,v1≠ .int .i64 z) (n2:∀z,v2≠ .int .i64 z) (n3:∀z,v3≠ .int .i64 z):C4 w' b v0 v1 v2 v3:=
 ⟨zLM h.lt hm.size,hm.cell _ _ h.c0 n0,hm.cell _ _ h.c1 n1,hm.cell _ _ h.c2 n2,hm.cell _ _ h.c3 n3,by rw[hm.frozen _ h.lt];exact h.f0,by rw[hm.frozen _ h.lt];exact h.f1,by rw[hm.frozen _ h.lt];exact h.f2,by rw[hm.frozen _ h.lt];exact h.f3⟩
theorem zie.tmv {bt a a' B:Nat} {l:List Nat} {w w':World} (h:zie w bt l B a) (hm:TMv bt w w') (ht:zkb w' bt l a'):zie w' bt l B a':=by
 refine⟨ht,λ v hv j hj=> ?_⟩
 obtain⟨v0,hv0⟩:∃v0,w.cell? ⟨bt,0,none⟩=some v0/\∀z,v0≠ .int .i64 z:=by
  obtain⟨v,hv,hc⟩:=h.1.ex;exact⟨v,hv,(zta.sl hc).noInt⟩
 have h1:=hm.cell _ _ hv0.1 hv0.2;rw[hv]at h1;injection h1 with h1
 subst h1;exact h.2 _ hv0.1 j hj
theorem C4.set1 {w:World} {b:Nat} {v0 v1 v2 v3:Value} (h:C4 w b v0 v1 v2 v3) (u:Value):C4 (w.setCell ⟨b,1,none⟩ u) b v0 u v2 v3:=by
 obtain⟨lt,c0,c1,c2,c3,f0,f1,f2,f3⟩:=h;refine⟨by simpa [World.setCell]using lt,?_,World.cell?_setCell_same _ _ _ c1,?_,?_,?_,?_,?_,?_⟩
 ·rw[zCO _ _ _ _ (by simp)];exact c0
 ·rw[zCO _ _ _ _ (by simp)];exact c2
 ·rw[zCO _ _ _ _ (by simp)];exact c3
 ·rw[World.frozen?_setCell];exact f0
 ·rw[World.frozen?_setCell];exact f1
 ·rw[World.frozen?_setCell];exact f2
 ·rw[World.frozen?_setCell];exact f3
theorem C4.set3 {w:World} {b:Nat} {v0 v1 v2 v3:Value} (h:C4 w b v0 v1 v2 v3) (u:Value):C4 (w.setCell ⟨b,3,none⟩ u) b v0 v1 v2 u:=by
 obtain⟨lt,c0,c1,c2,c3,f0,f1,f2,f3⟩:=h;refine⟨by simpa [World.setCell]using lt,?_,?_,?_,World.cell?_setCell_same _ _ _ c3,?_,?_,?_,?_⟩
 ·rw[zCO _ _ _ _ (by simp)];exact c0
 ·rw[zCO _ _ _ _ (by simp)];exact c1
 ·rw[zCO _ _ _ _ (by simp)];exact c2
 ·rw[World.frozen?_setCell];exact f0
 ·rw[World.frozen?_setCell];exact f1
 ·rw[World.frozen?_setCell];exact f2
 ·rw[World.frozen?_setCell];exact f3
structure LwT (w:World) (bt:Nat) (l:List Nat) (B b5:Nat) (vs ve vr:Value) (rs:List Value) (S E:List Rat) (R:List (List Rat)):Prop where
 tape:∃a,zie w bt l B a
 box:C4 w b5 (.string { data:=#[] }) vs vr ve
 st:zra w 53 B vs S
 ex:zra w 53 B ve E
 ra:zbc w 23 B 1 vr rs.length rs
 rl:rs.length=R.length
 rows:∀ (j:Nat) (h:j<rs.length) (h':j<R.length),zra w 53 B rs[j] R[j]/\(rs[j].ownBlock=none\/rs[j].ownBlock≠vs.ownBlock)/\(rs[j].ownBlock=none\/rs[j].ownBlock≠ve.ownBlock)
 se:vs.ownBlock=none\/vs.ownBlock≠ve.ownBlock
 sz:B<=w.heap.size
 bt5:bt<B/\b5<B/\b5≠bt
section
variable {w w':World} {bt:Nat} {l:List Nat} {B b5:Nat} {vs ve vr:Value} {rs:List Value} {S E:List Rat} {R:List (List Rat)}
theorem LwT.of (h:LwT w bt l B b5 vs ve vr rs S E R) (hm:zya B w w') (ht:∃a,zie w' bt l B a) (hb:C4 w' b5 (.string { data:=#[] }) vs vr ve):LwT w' bt l B b5 vs ve vr rs S E R:=
 ⟨ht,hb,h.st.moves hm (zLR _),h.ex.moves hm (zLR _),h.ra.moves hm (zLR _),h.rl,λ j h1 h2=>⟨(h.rows j h1 h2).1.moves hm (zLR _),(h.rows j h1 h2).2⟩,h.se,zLT h.sz hm.size,h.bt5⟩
theorem LwT.tmv (h:LwT w bt l B b5 vs ve vr rs S E R) {a':Nat} (hm:TMv bt w w') (ht:zkb w' bt l a'):LwT w' bt l B b5 vs ve vr rs S E R:=by
 obtain⟨a,h0⟩:=h.tape;exact h.of (hm.moves h.bt5.1) ⟨a',h0.tmv hm ht⟩ (h.box.tmv hm zZ h.st.sl.noInt h.ra.sl.noInt h.ex.sl.noInt)
theorem LwT.bw (h:LwT w bt l B b5 vs ve vr rs S E R) (hb:Below w.heap.size w w'):LwT w' bt l B b5 vs ve vr rs S E R:=by
 obtain⟨a,ht⟩:=h.tape;exact h.of (zya.bw hb) ⟨a,ht.bw hb⟩ (h.box.bS hb)
theorem zrf {u v v':Value} {k:Nat} (h:u.ownBlock=none\/u.ownBlock≠v.ownBlock) (hb:∀g,u.ownBlock=some g->g<k) {k':Nat} (hk:k<=k') (hv:v'.ownBlock=v.ownBlock\/v'.ownBlock=some k'):u.ownBlock=none\/u.ownBlock≠v'.ownBlock:=by
 rcases h with h | h
 ·exact Or.inl h
 ·cases hu:u.ownBlock with
  | none=>exact Or.inl rfl
  | some g=>
    refine Or.inr ?_;rcases hv with e | e
    ·rw[e,<-hu];exact h
    ·rw[e];intro e2;(injection e2 with e2);have:=hb g hu;omega
theorem LwT.startG (h:LwT w bt l B b5 vs ve vr rs S E R) {q:Rat} {v':Value} {k:Nat} (hv:zra w' 53 B v' (S++ [q])) (hg:w.grownBy w' vs.ownBlock) (hn:zdc w vs) (hvb:v'.ownBlock=vs.ownBlock\/v'.ownBlock=some k) (hk:w.heap.size<=k):
 LwT (w'.setCell ⟨b5,1,none⟩ v') bt l B b5 v' ve vr rs (S++ [q]) E R/\Below B w w':=by
 obtain⟨⟨a,ht⟩,box,st,ex,ra,rl,rows,se,sz,b1,b2,b3⟩:=h;have hb:=zob (B:=B) hg sz st.block;have box':=box.bw hb b2;have hm:zya B w' (w'.setCell ⟨b5,1,none⟩ v'):=zya.set b2 box'.c1 st.sl.noLimb _;obtain⟨xs,s1,s2⟩:=id st;have hes:ve.ownBlock=none\/ve.ownBlock≠v'.ownBlock:=zrf (zek se) (λ g hg=>(ex.block g hg).2) hk hvb;refine⟨⟨⟨a,(ht.low hb b1).set (by exact b3) box'.c1 st.sl.noByte _⟩,box'.set1 _,hv.moves hm (zLR _),(ex.grown hg hn (zek se)).moves hm (zLR _),(ra.grown hg (ra.kinds s1 zD)).moves hm (zLR _),rl,λ j h1 h2=> ?_,zek hes,zLT sz (zLT hb.size hm.size),b1,b2,b3⟩,hb⟩;obtain⟨k1,k2,k3⟩:=rows j h1 h2;exact⟨(k1.grown hg hn k2).moves hm (zLR _),zrf k2 (λ g hg=>(k1.block g hg).2) hk hvb,k3⟩
theorem LwT.exitG (h:LwT w bt l B b5 vs ve vr rs S E R) {q:Rat} {v':Value} {k:Nat} (hv:zra w' 53 B v' (E++ [q])) (hg:w.grownBy w' ve.ownBlock) (hn:zdc w ve) (hvb:v'.ownBlock=ve.ownBlock\/v'.ownBlock=some k) (hk:w.heap.size<=k):
 LwT (w'.setCell ⟨b5,3,none⟩ v') bt l B b5 vs v' vr rs S (E++ [q]) R/\Below B w w':=by
 obtain⟨⟨a,ht⟩,box,st,ex,ra,rl,rows,se,sz,b1,b2,b3⟩:=h;have hb:=zob (B:=B) hg sz ex.block;have box':=box.bw hb b2;have hm:zya B w' (w'.setCell ⟨b5,3,none⟩ v'):=zya.set b2 box'.c3 ex.sl.noLimb _;obtain⟨xs,s1,s2⟩:=id ex;refine⟨⟨⟨a,(ht.low hb b1).set (by exact b3) box'.c3 ex.sl.noByte _⟩,box'.set3 _,(st.grown hg hn se).moves hm (zLR _),hv.moves hm (zLR _),(ra.grown hg (ra.kinds s1 zD)).moves hm (zLR _),rl,λ j h1 h2=> ?_,zrf se (λ g hg=>(st.block g hg).2) hk hvb,zLT sz (zLT hb.size hm.size),b1,b2,b3⟩,hb⟩;obtain⟨k1,k2,k3⟩:=rows j h1 h2;exact⟨(k1.grown hg hn k3).moves hm (zLR _),k2,zrf k3 (λ g hg=>(k1.block g hg).2) hk hvb⟩
theorem LwT.ratesG (h:LwT w bt l B b5 vs ve vr rs S E R) {q:List Rat} {r v':Value} (hr:zra w 53 B r q) (hrs:r.ownBlock=none\/r.ownBlock≠vs.ownBlock) (hre:r.ownBlock=none\/r.ownBlock≠ve.ownBlock) (hv:zbc w' 23 B 1 v' (rs++ [r]).length (rs++ [r])) (hg:w.grownBy w' vr.ownBlock) (hn:zdc w vr):
 LwT (w'.setCell ⟨b5,2,none⟩ v') bt l B b5 vs ve v' (rs++ [r]) S E (R++ [q])/\Below B w w':=by
 obtain⟨⟨a,ht⟩,box,st,ex,ra,rl,rows,se,sz,b1,b2,b3⟩:=h;have hb:=zob (B:=B) hg sz ra.block;have box':=box.bw hb b2;have hm:zya B w' (w'.setCell ⟨b5,2,none⟩ v'):=zya.set b2 box'.c2 ra.sl.noLimb _
 have kF:∀ {v:Value} {p:List Rat},zra w 53 B v p->v.ownBlock=none\/v.ownBlock≠vr.ownBlock:=λ h=>by
  obtain⟨ys,y1,y2⟩:=id h;exact y1.kinds ra zD
 refine⟨⟨⟨a,(ht.low hb b1).set (by exact b3) box'.c2 ra.sl.noByte _⟩,box'.set2 _,(st.grown hg hn (kF st)).moves hm (zLR _),(ex.grown hg hn (kF ex)).moves hm (zLR _),hv.moves hm (zLR _),by simp[rl],λ j h1 h2=> ?_,se,zLT sz (zLT hb.size hm.size),b1,b2,b3⟩,hb⟩;rcases zOG j rs.length with hj | hj
 ·have hj2:j<R.length:=zO;rw[zAL hj,zAL hj2];obtain⟨k1,k2⟩:=rows j hj hj2;exact⟨(k1.grown hg hn (kF k1)).moves hm (zLR _),k2⟩
 ·obtain rfl:j=rs.length:=by simp at h1;omega
  have e1:(rs++ [r])[rs.length]'h1=r:=by simp
  have e2:(R++ [q])[rs.length]'h2=q:=by simp[rl]
  rw[e1,e2];exact⟨(hr.grown hg hn (kF hr)).moves hm (zLR _),hrs,hre⟩
end
end Go.Proofs.YtkpedaflofejnaaGreat
namespace Go.Proofs.YtkpedaflofejnaaGreat
def zwo (P m i left:Nat):List (List Nat):=if i=0 then zue P left m else zag (P-i) left
def cntK (m i left:Nat):Nat:=if i=0 then m else left
def zyl (P m i left:Nat) (pre:List Nat) (x:Nat):List (List Nat):=(List.range x).flatMap λ y=>(zwo P m (i+1) (left-y)).map ((pre++ [y])++ ·)
theorem zai {α:Type} (f:Nat->List α) (x:Nat):(List.range (x+1)).flatMap f=(List.range x).flatMap f++f x:=by
 rw[List.range_succ,List.flatMap_append,List.flatMap_cons,List.flatMap_nil,List.append_nil]
theorem cntD_succ (P m i left:Nat) (pre:List Nat) (x:Nat):zyl P m i left pre (x+1)=zyl P m i left pre x++(zwo P m (i+1) (left-x)).map ((pre++ [x])++ ·):=zai _ x
theorem cntD_zero (P m i left:Nat) (pre:List Nat):zyl P m i left pre 0= []:=rfl
theorem cntT_leaf {P m left:Nat} (hP:1<=P) (pre:List Nat):(zwo P m P left).map (pre++ ·)= [pre++ [left]]:=by
 unfold zwo;rw[zIN zO,Nat.sub_self];rfl
theorem zrm {P m i left:Nat} (hi:i<P) (pre:List Nat):(zwo P m i left).map (pre++ ·)=zyl P m i left pre (cntK m i left+1):=by
 unfold zwo zyl cntK;by_cases h0:i=0
 ·subst h0;rw[zIP rfl,zIP rfl];unfold zue;rw[List.map_flatMap]
  congr 1
  funext z
  unfold zwo;rw[zIN zO,List.map_map]
  congr 1
  funext u
  simp
 ·rw[zIN h0,zIN h0];obtain⟨r,hr⟩:∃r,P-i=r+1:=⟨P-i-1,zO⟩;rw[hr];unfold zag;rw[List.map_flatMap]
  congr 1
  funext z
  unfold zwo;rw[zIN zO,List.map_map,show P- (i+1)=r by omega]
  congr 1
  funext u
  simp
theorem zlj {α:Type} (f:Nat->List α) {x n:Nat} (h:x<=n):∃t,(List.range n).flatMap f=(List.range x).flatMap f++t:=by
 induction n with
 | zero=>
   obtain rfl:x=0:=zO;exact⟨[],by simp⟩
 | succ n ih=>
   rcases zOG n x with h1 | h1
   ·obtain rfl:x=n+1:=zO;exact⟨[],by simp⟩
   ·obtain⟨t,ht⟩:=ih h1;rw[zai,ht];exact⟨t++f n,by rw[List.append_assoc]⟩
theorem cntD_prefix {P m i left x n:Nat} {pre:List Nat} (h:x<=n):∃t,zyl P m i left pre n=zyl P m i left pre x++t:=zlj _ h
theorem nodup_pre {α:Type} {L D E t:List α} (h:(L++E).Nodup) (he:E=D++t):(L++D).Nodup:=by
 subst he;rw[<-List.append_assoc]at h;exact(List.nodup_append.1 h).1
theorem zop {α:Type} {D E t:List α} (he:E=D++t):D.length<=E.length:=by
 subst he;rw[zLA];omega
def zxl (ph:List Nat) (m i zeros:Nat):List (List Nat):=if m<zeros then []else zbb (ph.drop i) (m-zeros)
def zOf (y:Nat):Nat:=if y=0 then 1 else 0
def zhl (ph:List Nat) (m i zeros:Nat) (pre:List Nat) (x:Nat):List (List Nat):=(List.range x).flatMap λ y=>(zxl ph m (i+1) (zeros+zOf y)).map ((pre++ [y])++ ·)
theorem fulD_succ (ph:List Nat) (m i zeros:Nat) (pre:List Nat) (x:Nat):zhl ph m i zeros pre (x+1)=zhl ph m i zeros pre x++(zxl ph m (i+1) (zeros+zOf x)).map ((pre++ [x])++ ·):=zai _ x
theorem fulD_zero (ph:List Nat) (m i zeros:Nat) (pre:List Nat):zhl ph m i zeros pre 0= []:=rfl
theorem fulT_over {ph:List Nat} {m i zeros:Nat} (h:m<zeros) (pre:List Nat):(zxl ph m i zeros).map (pre++ ·)= []:=by
 unfold zxl;rw[zIP h];rfl
theorem fulT_leaf {ph:List Nat} {m zeros:Nat} (h:zeros<=m) (pre:List Nat):(zxl ph m ph.length zeros).map (pre++ ·)= [pre]:=by
 unfold zxl;rw[zIN zO,List.drop_length];unfold zbb;simp
theorem zqm {ph:List Nat} {m i zeros:Nat} (hi:i<ph.length) (h:zeros<=m) (pre:List Nat):(zxl ph m i zeros).map (pre++ ·)=zhl ph m i zeros pre (ph[i]+1):=by
 unfold zhl
 have e:zxl ph m i zeros=zbb (ph[i]::ph.drop (i+1)) (m-zeros):=by
  unfold zxl;rw[zIN zO,List.drop_eq_getElem_cons hi]
 rw[e];unfold zbb;rw[List.map_flatMap]
 congr 1
 funext y
 unfold zxl zOf;by_cases h0:y=0
 ·subst h0;rw[zIP rfl,zIP rfl];by_cases hz:m-zeros=0
  ·rw[zIP hz,zIP zO];rfl
  ·rw[zIN hz,zIN zO,List.map_map,show m-zeros-1=m- (zeros+1)by omega]
   congr 1
   funext u
   simp
 ·rw[zIN h0,zIN h0,zIN zO,List.map_map,Nat.add_zero]
  congr 1
  funext u
  simp
theorem fulD_prefix {ph:List Nat} {m i zeros x n:Nat} {pre:List Nat} (h:x<=n):∃t,zhl ph m i zeros pre n=zhl ph m i zeros pre x++t:=zlj _ h
end Go.Proofs.YtkpedaflofejnaaGreat
