/- Lemmas. -/
import Derived.Test.YtkpedaflofejnaaGreatMPr1
import Derived.Laws.EntriesVeiled
set_option linter.unusedVariables false
set_option linter.unusedSimpArgs false
namespace Go.Proofs.YtkpedaflofejnaaGreat
open Go.RowKit
section
variable {P:Program} {md:Region.Mode} {ops:Array Oper} {Q:Exit->Act->World->Prop} {S:World->Prop} {z:Nat}
theorem wpL.two (k j:Nat) {fuel:Nat} {l:Array Bool} {a:Act} {w:World} (hr:Region.ready md ops l= [k,j]) (hk:(ops[k]?).isSome=true) (hj:(ops[j]?).isSome=true)
 (h1:∀o,ops[k]? =some o->∀K:Act->World->Prop,zI (∀b v,((l.setIfInBounds k true).getD z false=false->S v)->wpL P md ops Q S z fuel (l.setIfInBounds k true) b v->K b v)->if Region.wanted o (yielded ops a.tmps)=true then o.wp P a w K Q else K (a.put o.dst undef) w)
 (h2:∀o,ops[j]? =some o->∀K:Act->World->Prop,zI (∀b v,((l.setIfInBounds j true).getD z false=false->S v)->wpL P md ops Q S z fuel (l.setIfInBounds j true) b v->K b v)->if Region.wanted o (yielded ops a.tmps)=true then o.wp P a w K Q else K (a.put o.dst undef) w):wpL P md ops Q S z (fuel+1) l a w:=by
 refine⟨(λ h0=>by rw[hr]at h0;cases h0),λ i hi=> ?_⟩;rw[hr]at hi
 have key:∀i:Nat,(ops[i]?).isSome=true->(∀o,ops[i]? =some o->∀K:Act->World->Prop,zI (∀b v,((l.setIfInBounds i true).getD z false=false->S v)->wpL P md ops Q S z fuel (l.setIfInBounds i true) b v->K b v)->if Region.wanted o (yielded ops a.tmps)=true then o.wp P a w K Q else K (a.put o.dst undef) w)->wpOp P ops Q i (λ b v=>((l.setIfInBounds i true).getD z false=false->S v)/\wpL P md ops Q S z fuel (l.setIfInBounds i true) b v) a w:=λ i hi h=>by
  obtain⟨o,ho⟩:=Option.isSome_iff_exists.1 hi;have h1:=h o ho _ (zH λ b v h2 h3=>(⟨h2,h3⟩:((l.setIfInBounds i true).getD z false=false->S v)/\_));unfold wpOp;simp only[ho];by_cases hw:Region.wanted o (yielded ops a.tmps)=true
  ·(rw[zIP hw]at h1 |-);exact Or.inl h1
  ·(rw[zIN hw]at h1 |-);exact h1
 rcases(show i=k\/i=j by simpa using hi)with rfl | rfl
 ·exact key i hk h1
 ·exact key i hj h2
end
theorem step_make {P:Program} (t e:TypeId) (i:TypeInfo) (z:Value) (h1:P.underlying t=some (.slice e)) (h2:P.info? e=some i) (h3:i.zero=some z) (h4:i.size=1) (h5:i.bytes<=32) (hz:z.cells=#[z])
 {ops:Array Oper} {o:Oper} {a:Act} {w:World} {K:Act->World->Prop} {Q:Exit->Act->World->Prop} {E:Prop} (hgd:o.guard=none) (l c:Operand) (ho:o.op= .makeSlice t l c) (n:Nat) (hl:a.eval l= .int .i64 (n:Nat)) (hc:a.eval c= .int .i64 (n:Nat)) (hn:n<=200) (B:Nat) (hB:B<=w.heap.size)
 (h:∀v' w',zib w' e B v' (List.replicate n z)->Below w.heap.size w w'->w.heap.size<=(base v').block->K (a.put o.dst v') w'):if Region.wanted o (yielded ops a.tmps)=true then Oper.wp P o a w K Q else E:=by
 rw[zIP (by simp[Region.wanted,hgd])];have hb:i.bytes*n<=281474976710656:=zLT (zMM h5 hn) zD
 have hb2:(i.bytes:Int)*(n:Int)<=281474976710656:=by
  have h:((i.bytes*n:Nat):Int)<=281474976710656:=zO;rwa[Int.natCast_mul]at h
 have hr:=run_make (P:=P) w t e i z h1 h2 h3 .i64 .i64 n n zO (Int.le_refl _) hb2 zO;simp only[Int.toNat_natCast]at hr;rw[h4,hz]at hr;unfold Oper.wp execOp;simp only[ho,hl,hc,Sem.run_bind,hr,Result.andThen_ok,Sem.run_pure]
 have hown:zib (w.alloc (.cells (madeCells #[z] (n*1)) e)) e B (.slice (some ⟨w.heap.size,0,none⟩) n n) (List.replicate n z):=by
  have:=World.ownsRow_lit (size:=1) (base:=B) w (madeCells #[z] (n*1)) (e:=e) n hB (by simp[maxLen];omega) (size_madeCells _ _);have h2:(madeCells #[z] (n*1)).toList=List.replicate n z:=by rw[Nat.mul_one,toList_madeCells_one]
  rw[h2]at this;unfold zib;rw[zRP];exact this
 exact h _ _ hown (zba w _) (zLR _)
theorem zvi.overC5 {w:World} {B b:Nat} {vs vr:Value} {rs:List Value} {S:List Rat} {R:List (List Rat)} {v0 v1 v2 v3 v4:Value} (h:zvi w B vs (.slice none 0 0) vr rs S [] R) (hc:C5 w b v0 v1 v2 v3 v4) {p:Addr} {x:Value} (hpb:p.block=b) (hx:w.cell? p=some x) (hn:∀z,x≠ .int .u32 z) (u:Value):
 zvi (w.setCell p u) B vs (.slice none 0 0) vr rs S [] R:=by
 have key:∀ {v:Value} {q:List Rat},zra w 53 B v q->v.ownBlock≠some p.block:=fun{v q} hf=>by
  obtain⟨xs,k1,_⟩:=hf;rw[hpb];exact hc.neR k1.own zD
 exact⟨h.s.over (Or.inr (key h.s)) hx hn u,zra.nil _ _ _,h.ra.over (Or.inr (by rw[hpb];exact hc.neR h.ra.own zD)) u,h.rl,λ j h1 h2=>(h.rows j h1 h2).over (Or.inr (key (h.rows j h1 h2))) hx hn u,h.ds,h.dr,h.dd,by
  have:=h.sz;simpa [World.setCell]using this⟩
theorem last_set {n:Nat} (h:1<=n):(List.replicate n (Value.bool false)).set (n-1) (.bool true)=(zvg n).map Value.bool:=by
 refine List.ext_getElem (by simp[zvg]) λ j h1 h2=> ?_
 have hj:j<n:=by simpa using h1
 rw[List.getElem_set,List.getElem_map];unfold zvg;rw[List.getElem_map,List.getElem_range];by_cases e:n-1=j
 ·rw[zIP e,zDT zO]
 ·rw[zIN e,List.getElem_replicate,zDF zO]
theorem lost_store {w wc:World} {b vb n:Nat} {x1 y1:Option Addr} {x2 x3 y3:Nat} (hc:C5 wc b (.pointer (some ⟨vb,0,none⟩)) (.slice none 0 0) (.slice x1 x2 x3) (.slice y1 n y3) (.int .i64 0)) (hr:zra wc 53 w.heap.size (.slice x1 x2 x3) (zgb n)) (hl:zib wc 4 w.heap.size (.slice y1 n y3) (List.replicate n (.bool false)))
 (hN:wc.cell? ⟨w.heap.size,0,none⟩=some (.int .i64 (n:Nat))) (hb:Below w.heap.size w wc) (hw:w.heap.size<b) (hn:1<=n):
 C5 (wc.setCell (ptr (.slice y1 n y3) (n-1)) (.bool true)).drew b (.pointer (some ⟨vb,0,none⟩)) (.slice none 0 0) (.slice x1 x2 x3) (.slice y1 n y3) (.int .i64 0)/\zra (wc.setCell (ptr (.slice y1 n y3) (n-1)) (.bool true)).drew 53 w.heap.size (.slice x1 x2 x3) (zgb n)/\zib (wc.setCell (ptr (.slice y1 n y3) (n-1)) (.bool true)).drew 4 w.heap.size (.slice y1 n y3) ((zvg n).map Value.bool)/\
  (wc.setCell (ptr (.slice y1 n y3) (n-1)) (.bool true)).drew.cell? ⟨w.heap.size,0,none⟩=some (.int .i64 (n:Nat))/\Below w.heap.size w (wc.setCell (ptr (.slice y1 n y3) (n-1)) (.bool true)).drew:=by
 have hset:=hl.set (n-1) (by simp;omega) (.bool true);rw[last_set hn]at hset;have cz:wc.cell? (ptr (.slice y1 n y3) (n-1))=some (.bool false):=by rw[hl.cell (n-1) (by simp;omega),List.getElem_replicate]
 have hob:(Value.slice y1 n y3).ownBlock=some (ptr (.slice y1 n y3) (n-1)).block:=by
  rw[zma];rcases hl.2 with⟨_,h0⟩ | ⟨g,cap,cur,e8,_⟩
  ·simp at h0;omega
  ·rw[e8];rfl
 have hpb:(ptr (.slice y1 n y3) (n-1)).block≠b:=λ e=>hc.neR hl zD (by rw[hob,e])
 have hvs:(Value.slice x1 x2 x3).ownBlock≠some (ptr (.slice y1 n y3) (n-1)).block:=by
  rw[<-hob];rcases hr.kindE hl zD with h1 | h1
  ·rw[hob]at h1;cases h1
  ·exact λ e=>h1 e.symm
 have hbl:=hl.block (by simp;omega);have hb2:=hb.setCell (p:=ptr (.slice y1 n y3) (n-1)) (by rw[zma];exact hbl.1) (.bool true)
 exact⟨(hc.other hpb _).bS (zha _),(hr.over (Or.inr hvs) cz zZ _).moves (zya.bw (B:=w.heap.size) (zha _)) (zLR _),hset.1.bw (zha _),by
  show(wc.setCell (ptr (.slice y1 n y3) (n-1)) (.bool true)).cell? _=_
  rw[zCO _ _ _ _ (λ e=>by
   (have h1:w.heap.size=(ptr (.slice y1 n y3) (n-1)).block:=by rw[e]);rw[zma]at h1;have h2:=hl.cell (n-1) (by simp;omega);have h3:=World.block_lt_of_cell? wc _ h2
   first
    |(rw[<-e]at h2;rw[hN]at h2;rw[List.getElem_replicate]at h2;cases h2)
    |(rw[e]at h2;rw[hN]at h2;rw[List.getElem_replicate]at h2;cases h2))]
  exact hN,hb2.drew⟩
theorem zvi.begin {w:World} {B n:Nat} {vs:Value} (h:zra w 53 B vs (zgb n)) (hB:B<=w.heap.size) (hn:1<=n):zvi w B vs (.slice none 0 0) (.slice none 0 0) [] (zgb n) [] (List.replicate 0 (zgb n)):=
 ⟨h,zra.nil _ _ _,zbc.nil _ _ _ _,rfl,λ j h=>(by cases h),(by
  obtain⟨g,h1,_⟩:=h.blk (by rw[zva];exact hn);rw[h1];intro e;cases e),λ j h=>(by cases h),λ i j h=>(by cases h),hB⟩
theorem zgl {w wy:World} {b vb n:Nat} {x1 y1:Option Addr} {x2 x3 y2 y3:Nat} (hc:C5 wy b (.pointer (some ⟨vb,0,none⟩)) (.slice none 0 0) (.slice x1 x2 x3) (.slice none 0 0) (.int .i64 0)) (hr:zra wy 53 w.heap.size (.slice x1 x2 x3) (zgb n)) (hl:zib wy 4 w.heap.size (.slice y1 y2 y3) (List.replicate n (.bool false)))
 (hN:wy.cell? ⟨w.heap.size,0,none⟩=some (.int .i64 (n:Nat))) (hb:Below w.heap.size w wy) (hw:w.heap.size<b):
 ∃ (p1:Option Addr) (p2 p3:Nat) (r1:Option Addr) (r2 r3:Nat),C5 (wy.setCell ⟨b,3,none⟩ (.slice y1 y2 y3)) b (.pointer (some ⟨vb,0,none⟩)) (.slice none 0 0) (.slice p1 p2 p3) (.slice r1 r2 r3) (.int .i64 0)/\zra (wy.setCell ⟨b,3,none⟩ (.slice y1 y2 y3)) 53 w.heap.size (.slice p1 p2 p3) (zgb n)/\zib (wy.setCell ⟨b,3,none⟩ (.slice y1 y2 y3)) 4 w.heap.size (.slice r1 r2 r3) (List.replicate n (.bool false))/\
  (wy.setCell ⟨b,3,none⟩ (.slice y1 y2 y3)).cell? ⟨w.heap.size,0,none⟩=some (.int .i64 (n:Nat))/\Below w.heap.size w (wy.setCell ⟨b,3,none⟩ (.slice y1 y2 y3)):=
 ⟨x1,x2,x3,y1,y2,y3,hc.set3 _,hr.over (p:=⟨b,3,none⟩) (Or.inr (by obtain⟨xs,k1,_⟩:=hr;exact hc.neR k1.own zD)) hc.cells.2.2.2.1 zZ _,hl.grown (zed wy ⟨b,3,none⟩ _) (Or.inr (hc.neR hl zD)),by
  rw[zCO _ _ _ _ (λ e=>by injection e with e;omega)];exact hN,hb.setCell (p:=⟨b,3,none⟩) (zLO hw) _⟩
set_option maxRecDepth 100000 in
set_option maxHeartbeats 6400000 in
theorem build_any (vb n0 B0 mb:Nat) (lv:Value) (rs0:List Value) (L:List (List Nat)) (w:World) (hV:zsk w B0 vb mb lv rs0 L) (hL:L.length<=150):
 Calls Tryz.prog 42 #[.pointer (some ⟨vb,0,none⟩)] w (λ e w'=>∃b vs vl vr rs,e= .returned (.pointer (some ⟨b,0,none⟩))/\Bld w' w.heap.size b vb w'.heap.size vs vl vr rs (L.length+1) (λ _=>0) (λ _ _=>0)/\Below w.heap.size w w'):=by
 obtain⟨i1,hi1,hz1,hs1,hy1⟩:=info_parts Tryz.infoBool;have hMB:=fun{ops:Array Oper} {o:Oper} {a:Act} {w:World} {K:Act->World->Prop} {Q:Exit->Act->World->Prop} {E:Prop}=>step_make (P:=Tryz.prog) 32 4 i1 (.bool false) Tryz.underlying32 hi1 hz1 hs1 (by rw[hy1];decide) rfl (ops:=ops) (o:=o) (a:=a) (w:=w) (K:=K) (Q:=Q) (E:=E)
 obtain⟨i4,hi4,hz4,hs4,hy4⟩:=info_parts Tryz.infoRow;have hAR:=fun{ops:Array Oper} {o:Oper} {a:Act} {w:World} {K:Act->World->Prop} {Q:Exit->Act->World->Prop} {E:Prop}=>zph (P:=Tryz.prog) 28 23 i4 Tryz.underlying28 hi4 hz4 hs4 hy4 (ops:=ops) (o:=o) (a:=a) (w:=w) (K:=K) (Q:=Q) (E:=E)
 have c0:=hV.c0;have hsl:=hV.sl;have hln:=hV.len;obtain⟨m,hm⟩:∃m,L.length=m:=⟨_,rfl⟩;rw[hm]at hln hL;have HM:=zH hm;clear hi1 hz1 hs1 hy1 hi4 hz4 hs4 hy4 hV hm;go_enter Tryz.func42,Tryz.ntmps42;go_upto_region 4 with fail;have hN:((w.alloc (.cells #[.int .i64 ((m+1:Nat):Int)] 3)).alloc (.cells #[.pointer (some ⟨vb,0,none⟩), .slice none 0 0, .slice none 0 0, .slice none 0 0, .int .i64 0] 86)).cell? ⟨w.heap.size,0,none⟩=some (.int .i64 ((m+1:Nat):Int)):=by go_simp
 have h5:=C5.new (w.alloc (.cells #[.int .i64 ((m+1:Nat):Int)] 3)) (.pointer (some ⟨vb,0,none⟩)) (.slice none 0 0) (.slice none 0 0) (.slice none 0 0) (.int .i64 0);rw[sizeA]at h5;have hbw:=zaa (zba w (.cells #[.int .i64 ((m+1:Nat):Int)] 3)) (zba (w.alloc (.cells #[.int .i64 ((m+1:Nat):Int)] 3)) (.cells #[.pointer (some ⟨vb,0,none⟩), .slice none 0 0, .slice none 0 0, .slice none 0 0, .int .i64 0] 86));rw[show((w.alloc (.cells #[.int .i64 ((m:Int)+1)] 3)).alloc (.cells #[.pointer (some ⟨vb,0,none⟩), .slice none 0 0, .slice none 0 0, .slice none 0 0, .int .i64 0] 86))=((w.alloc (.cells #[.int .i64 ((m+1:Nat):Int)] 3)).alloc (.cells #[.pointer (some ⟨vb,0,none⟩), .slice none 0 0, .slice none 0 0, .slice none 0 0, .int .i64 0] 86))from rfl];rw[show(.int .i64 ((m:Int)+1):Value)= .int .i64 ((m+1:Nat):Int)from rfl];obtain⟨n,hn⟩:∃n,m+1=n:=⟨_,rfl⟩;have HMN:=zH hn;have hn1:1<=n:=zO;have hn2:n<=200:=zO;rw[hn]at hN h5 hbw |-
 generalize (w.alloc (.cells #[.int .i64 (n:Nat)] 3)).alloc (.cells #[.pointer (some ⟨vb,0,none⟩), .slice none 0 0, .slice none 0 0, .slice none 0 0, .int .i64 0] 86)=W at *
 obtain⟨b,hb⟩:∃b,w.heap.size+1=b:=⟨_,rfl⟩;have HWB:zI (w.heap.size<b):=zH zO;rw[hb]at h5 |-
 have HN:=zH hN;have H5:=zH h5;have HBW:=zH hbw;clear hn hb h5 hbw c0 hsl hln hL;go_cut [] (λ wy=>∃ (x1:Option Addr) (x2 x3:Nat) (y1:Option Addr) (y2 y3:Nat),C5 wy b (.pointer (some ⟨vb,0,none⟩)) (.slice none 0 0) (.slice x1 x2 x3) (.slice y1 y2 y3) (.int .i64 0)/\zra wy 53 w.heap.size (.slice x1 x2 x3) (zgb n)/\zib wy 4 w.heap.size (.slice y1 y2 y3) (List.replicate n (.bool false))/\wy.cell? ⟨w.heap.size,0,none⟩=some (.int .i64 (n:Nat))/\Below w.heap.size w wy)
 case first =>
  refine wpL.start 13 (λ w'=>w'.cell? ⟨w.heap.size,0,none⟩=some (.int .i64 (n:Nat))) (by kernel_rfl) (zca (zha W) HN.o) (λ hHeld=> ?_);have HC:=zH (H5.o.bS (zha W));have HB:=zH (zaa HBW.o (zha W));clear hN H5 HBW HN;generalize W.drew=wd at *
  refine zU 0 ?_;refine zU 1 ?_;refine zU 2 ?_;refine zY 4 ?_;refine wpL.two 3 5 (by kernel_rfl) (by kernel_rfl) (by kernel_rfl) ?_ ?_
  ·skip
   intro oi hoi K hK;simp only[List.getElem?_toArray,List.getElem?_cons_succ,List.getElem?_cons_zero,Option.some.injEq]at hoi;subst hoi;refine zla 104 #[.pointer (some ⟨w.heap.size,0,none⟩)] ?_ ?_ (zel _ n _ (by assumption) hn1 hn2) ?_
   ·rfl
   ·go_simp
   rintro e6 w6 ⟨v6,rfl,hv6,hb6⟩;obtain⟨x1,x2,x3,rfl,_⟩:=id hv6.sl;have hS6:=zca hb6 hHeld;refine⟨_,rfl,?_⟩;refine hK.o _ _ (λ _=>hS6) ?_;replace HC:=zH (HC.o.bS hb6);have HR:=zH (hv6.mono HB.o.size);replace HB:=zH (zaa HB.o hb6);clear hK K hHeld hv6 hb6;have hHeld:=hS6;clear hS6;refine zS ?_;refine zU 6 ?_;refine zU 7 ?_;refine zU 8 ?_;refine wpL.two 5 9 (by kernel_rfl) (by kernel_rfl) (by kernel_rfl) ?_ ?_
   ·skip
    intro oi hoi K hK;simp only[List.getElem?_toArray,List.getElem?_cons_succ,List.getElem?_cons_zero,Option.some.injEq]at hoi;subst hoi;refine hMB rfl _ _ (by rfl) n (by rfl) (by rfl) hn2 w.heap.size HB.o.size ?_;intro v7 w7 hv7 hb7 hg7;obtain⟨y1,y2,y3,rfl,_⟩:=id hv7.sl;have hS7:=zca hb7 hHeld;refine hK.o _ _ (λ _=>hS7) ?_;replace HC:=zH (HC.o.bS hb7);have HL:=zH hv7;replace HB:=zH (zaa HB.o hb7);replace HR:=zH (HR.o.moves (zya.bw (B:=w.heap.size) hb7) (zLR _));clear hK K hHeld hv7 hb7 hg7;have hHeld:=hS7;clear hS7;refine zS ?_;(refine zW 9 ?_;intro K hK);rw[zIP (by rfl)];have q2:=HC.o.cells.2.2.1;have g2:=HC.o.frozen 2;go_simp;have HC9:=zH (HC.o.set2 (.slice x1 x2 x3));(have hne:(⟨b,2,none⟩:Addr)≠⟨w.heap.size,0,none⟩:=λ e=>by injection e with e;have:=HWB.o;omega);have hS9:=hHeld;rw[<-zCO _ ⟨b,2,none⟩ _ (.slice x1 x2 x3) hne]at hS9;have HR9:=zH (HR.o.over (p:=⟨b,2,none⟩) (Or.inr (by obtain⟨xs,k1,_⟩:=HR.o;exact HC.o.neR k1.own zD)) q2 zZ (.slice x1 x2 x3));have HB9:=zH (HB.o.setCell (p:=⟨b,2,none⟩) (zLO HWB.o) (.slice x1 x2 x3));refine hK.o _ _ (λ _=>hS9) ?_;replace HL:=zH (HL.o.grown (zed _ ⟨b,2,none⟩ (.slice x1 x2 x3)) (Or.inr (HC.o.neR HL.o zD)));clear hK K hHeld q2 g2 HC HR HB hne;have hHeld:=hS9;clear hS9;have HC:=HC9;have HR:=HR9;have HB:=HB9;clear HC9 HR9 HB9;refine zS ?_;(refine zW 10 ?_;intro K hK);rw[zIP (by rfl)];go_simp;refine hK.o _ _ (λ _=>hHeld) ?_;clear hK K;refine zS ?_;(refine zW 11 ?_;intro K hK);rw[zIP (by rfl)];go_simp;refine hK.o _ _ (λ _=>hHeld) ?_;clear hK K;refine zS ?_;(refine zW 12 ?_;intro K hK);rw[zIP (by rfl)];go_simp;refine hK.o _ _ (λ _=>hHeld) ?_;clear hK K;refine zS ?_;(refine zW 13 ?_;intro K hK);rw[zIP (by rfl)];have q3:=HC.o.cells.2.2.2.1;have g3:=HC.o.frozen 3;go_simp;refine hK.o _ _ (λ h=>by first | cases h | simp at h) ?_;clear hK K;refine wpL.done (by kernel_rfl) ?_ _;go_wp2_with fail;go_meet;case rel=>exact zgl HC.o HR.o HL.o hHeld HB.o HWB.o
   ·skip
    intro oi hoi K hK;simp only[List.getElem?_toArray,List.getElem?_cons_succ,List.getElem?_cons_zero,Option.some.injEq]at hoi;subst hoi;rw[zIP (by rfl)];have q2:=HC.o.cells.2.2.1;have g2:=HC.o.frozen 2;go_simp;have HC9:=zH (HC.o.set2 (.slice x1 x2 x3));(have hne:(⟨b,2,none⟩:Addr)≠⟨w.heap.size,0,none⟩:=λ e=>by injection e with e;have:=HWB.o;omega);have hS9:=hHeld;rw[<-zCO _ ⟨b,2,none⟩ _ (.slice x1 x2 x3) hne]at hS9;have HR9:=zH (HR.o.over (p:=⟨b,2,none⟩) (Or.inr (by obtain⟨xs,k1,_⟩:=HR.o;exact HC.o.neR k1.own zD)) q2 zZ (.slice x1 x2 x3));have HB9:=zH (HB.o.setCell (p:=⟨b,2,none⟩) (zLO HWB.o) (.slice x1 x2 x3));refine hK.o _ _ (λ _=>hS9) ?_;clear hK K hHeld q2 g2 HC HR HB hne;have hHeld:=hS9;clear hS9;have HC:=HC9;have HR:=HR9;have HB:=HB9;clear HC9 HR9 HB9;refine zS ?_;(refine zW 5 ?_;intro K hK);refine hMB rfl _ _ (by rfl) n (by rfl) (by rfl) hn2 w.heap.size HB.o.size ?_;intro v7 w7 hv7 hb7 hg7;obtain⟨y1,y2,y3,rfl,_⟩:=id hv7.sl;have hS7:=zca hb7 hHeld;refine hK.o _ _ (λ _=>hS7) ?_;replace HC:=zH (HC.o.bS hb7);have HL:=zH hv7;replace HB:=zH (zaa HB.o hb7);replace HR:=zH (HR.o.moves (zya.bw (B:=w.heap.size) hb7) (zLR _));clear hK K hHeld hv7 hb7 hg7;have hHeld:=hS7;clear hS7;refine zS ?_;(refine zW 10 ?_;intro K hK);rw[zIP (by rfl)];go_simp;refine hK.o _ _ (λ _=>hHeld) ?_;clear hK K;refine zS ?_;(refine zW 11 ?_;intro K hK);rw[zIP (by rfl)];go_simp;refine hK.o _ _ (λ _=>hHeld) ?_;clear hK K;refine zS ?_;(refine zW 12 ?_;intro K hK);rw[zIP (by rfl)];go_simp;refine hK.o _ _ (λ _=>hHeld) ?_;clear hK K;refine zS ?_;(refine zW 13 ?_;intro K hK);rw[zIP (by rfl)];have q3:=HC.o.cells.2.2.2.1;have g3:=HC.o.frozen 3;go_simp;refine hK.o _ _ (λ h=>by first | cases h | simp at h) ?_;clear hK K;refine wpL.done (by kernel_rfl) ?_ _;go_wp2_with fail;go_meet;case rel=>exact zgl HC.o HR.o HL.o hHeld HB.o HWB.o
  ·skip
   intro oi hoi K hK;simp only[List.getElem?_toArray,List.getElem?_cons_succ,List.getElem?_cons_zero,Option.some.injEq]at hoi;subst hoi;refine hMB rfl _ _ (by rfl) n (by rfl) (by rfl) hn2 w.heap.size HB.o.size ?_;intro v7 w7 hv7 hb7 hg7;obtain⟨y1,y2,y3,rfl,_⟩:=id hv7.sl;have hS7:=zca hb7 hHeld;refine hK.o _ _ (λ _=>hS7) ?_;replace HC:=zH (HC.o.bS hb7);have HL:=zH hv7;replace HB:=zH (zaa HB.o hb7);clear hK K hHeld hv7 hb7 hg7;have hHeld:=hS7;clear hS7;refine zS ?_;(refine zW 3 ?_;intro K hK);refine zla 104 #[.pointer (some ⟨w.heap.size,0,none⟩)] ?_ ?_ (zel _ n _ (by assumption) hn1 hn2) ?_
   ·rfl
   ·go_simp
   rintro e6 w6 ⟨v6,rfl,hv6,hb6⟩;obtain⟨x1,x2,x3,rfl,_⟩:=id hv6.sl;have hS6:=zca hb6 hHeld;refine⟨_,rfl,?_⟩;refine hK.o _ _ (λ _=>hS6) ?_;replace HC:=zH (HC.o.bS hb6);have HR:=zH (hv6.mono HB.o.size);replace HL:=zH (HL.o.bw hb6);replace HB:=zH (zaa HB.o hb6);clear hK K hHeld hv6 hb6;have hHeld:=hS6;clear hS6;refine zS ?_;refine zU 6 ?_;refine zU 7 ?_;refine zU 8 ?_;(refine zW 9 ?_;intro K hK);rw[zIP (by rfl)];have q2:=HC.o.cells.2.2.1;have g2:=HC.o.frozen 2;go_simp;have HC9:=zH (HC.o.set2 (.slice x1 x2 x3));(have hne:(⟨b,2,none⟩:Addr)≠⟨w.heap.size,0,none⟩:=λ e=>by injection e with e;have:=HWB.o;omega);have hS9:=hHeld;rw[<-zCO _ ⟨b,2,none⟩ _ (.slice x1 x2 x3) hne]at hS9;have HR9:=zH (HR.o.over (p:=⟨b,2,none⟩) (Or.inr (by obtain⟨xs,k1,_⟩:=HR.o;exact HC.o.neR k1.own zD)) q2 zZ (.slice x1 x2 x3));have HB9:=zH (HB.o.setCell (p:=⟨b,2,none⟩) (zLO HWB.o) (.slice x1 x2 x3));refine hK.o _ _ (λ _=>hS9) ?_;replace HL:=zH (HL.o.grown (zed _ ⟨b,2,none⟩ (.slice x1 x2 x3)) (Or.inr (HC.o.neR HL.o zD)));clear hK K hHeld q2 g2 HC HR HB hne;have hHeld:=hS9;clear hS9;have HC:=HC9;have HR:=HR9;have HB:=HB9;clear HC9 HR9 HB9;refine zS ?_;(refine zW 10 ?_;intro K hK);rw[zIP (by rfl)];go_simp;refine hK.o _ _ (λ _=>hHeld) ?_;clear hK K;refine zS ?_;(refine zW 11 ?_;intro K hK);rw[zIP (by rfl)];go_simp;refine hK.o _ _ (λ _=>hHeld) ?_;clear hK K;refine zS ?_;(refine zW 12 ?_;intro K hK);rw[zIP (by rfl)];go_simp;refine hK.o _ _ (λ _=>hHeld) ?_;clear hK K;refine zS ?_;(refine zW 13 ?_;intro K hK);rw[zIP (by rfl)];have q3:=HC.o.cells.2.2.2.1;have g3:=HC.o.frozen 3;go_simp;refine hK.o _ _ (λ h=>by first | cases h | simp at h) ?_;clear hK K;refine wpL.done (by kernel_rfl) ?_ _;go_wp2_with fail;go_meet;case rel=>exact zgl HC.o HR.o HL.o hHeld HB.o HWB.o
 case rest=>
  obtain⟨x1,x2,x3,y1,y2,y3,hC,hR,hL,hN2,hB⟩:=hcut;have HC:=zH hC;have HR:=zH hR;have HL:=zH hL;have HB:=zH hB;have q3:=hC.cells.2.2.2.1;have sly:=hL.sl;have lly:y2=n:=by have h:=hL.len;simpa [slen]using h
  subst lly;obtain⟨z0,cz⟩:∃z,wc.cell? (ptr (.slice y1 y2 y3) (y2-1))=some z:=⟨_,hL.cell (y2-1) (by simp;omega)⟩;have fz:=hL.frozen (y2-1) (by simp;omega);have hi3:((y2:Int)-1)=((y2-1:Nat):Int):=zO;have i1:(0:Int)<=((y2-1:Nat):Int):=zO;have i2:((y2-1:Nat):Int)<(y2:Nat):=zO;clear hC hR hL hB;go_wp2_with fail;go_region
  have HZ:=zH (lost_store HC.o HR.o HL.o hN2 HB.o HWB.o hn1);clear q3 cz fz hN2 HC HR HL HB;generalize (wc.setCell (ptr (.slice y1 y2 y3) (y2-1)) (.bool true)).drew=wz at *
  have HL0:=zH (zvi.begin HZ.o.2.1 HZ.o.2.2.2.2.size hn1);have hSL:=HZ.o.2.1.sl;go_wp2_with fail;go_loopg [6] (y2) (λ g u6 wr=>∃ (i:Nat) (vr:Value) (rs:List Value),i<=y2/\g=y2-i/\u6= .int .i64 i/\zvi wr w.heap.size (.slice x1 x2 x3) (.slice none 0 0) vr rs (zgb y2) [] (List.replicate i (zgb y2))/\(rs= []->vr.ownBlock=none)/\C5 wr b (.pointer (some ⟨vb,0,none⟩)) vr (.slice x1 x2 x3) (.slice y1 y2 y3) (.int .i64 0)/\zib wr 4 w.heap.size (.slice y1 y2 y3) ((zvg y2).map Value.bool)/\wr.cell? ⟨w.heap.size,0,none⟩=some (.int .i64 (y2:Nat))/\Below w.heap.size w wr);case atStart=>exact⟨0,_,_,zZL _,rfl,rfl,HL0.o,λ _=>rfl,HZ.o.1,HZ.o.2.2.1,HZ.o.2.2.2.1,HZ.o.2.2.2.2⟩
  case round=>
   obtain⟨i,vr,rs,hin,hg,rfl,hl,hnv0,hc,hlo,hN,hbr⟩:=hrel;have HNV:=zH hnv0;obtain⟨wx,hwx⟩:∃w6,w6=wr:=⟨_,rfl⟩;subst hwx;have HG:=zH hg;have HL:=zH hl;have HC:=zH hc;have HLO:=zH hlo;have HN:=zH hN;have HBR:=zH hbr;clear hg hl hc hlo hbr hnv0 HL0 HZ;by_cases hil:i<y2
   ·have i5:decide ((i:Int)<(y2:Nat))=true:=zDT zO;go_wp2_with fail;obtain⟨r1,r2,r3,rfl,_⟩:=id HL.o.ra.sl;have c1:=HC.o.cells.2.1;refine wpL.st2 13 c1 hN (λ wd hbD hHeld=> ?_);have HLD:=zH (HL.o.bw hbD);have HCD:=zH (HC.o.bS hbD);have HOD:=zH (HLO.o.bw hbD);have HBD:=zH (zsb HBR.o hbD HBR.o.size);clear c1 hN hbD;refine zU 0 ?_;refine zU 1 ?_;refine zU 2 ?_;refine zU 3 ?_;refine zU 4 ?_;refine zY 5 ?_;refine zU 6 ?_;(refine zW 7 ?_;intro K hK);refine zla 104 #[.pointer (some ⟨w.heap.size,0,none⟩)] ?_ ?_ (zel _ y2 wd hHeld.2 hn1 hn2) ?_
    ·rfl
    ·go_simp
    rintro e7 w7 ⟨v7,rfl,hv7,hb7⟩;obtain⟨p1,p2,p3,rfl,_⟩:=id hv7.sl;have h7:=kcl2 hb7 hHeld;refine⟨_,rfl,?_⟩;refine hK.o _ _ (λ _=>h7) ?_;clear hK K hHeld;refine zS ?_;(refine zW 8 ?_;intro K hK);rw[zIP (by rfl)];go_simp;have hb8:=zba w7 (.cells #[.slice p1 p2 p3] 23);have h8:=kcl2 hb8 h7;refine hK.o _ _ (λ _=>h8) ?_;clear hK K;refine zS ?_;have hrow:=(hv7.mono HBD.o.size).moves (zya.bw (B:=w.heap.size) hb8) (zLR _);have L8:=(HLD.o.bw hb7).bw hb8;have C8:=(HCD.o.bS hb7).bS hb8;have O8:=(HOD.o.bw hb7).bw hb8;(have hzl:0<(zgb y2).length:=by rw[zva];exact hn1);have n1:=own_ne HLD.o.s hv7 hzl
    have n2:(Value.slice p1 p2 p3).ownBlock≠(Value.slice none 0 0).ownBlock:=by
     obtain⟨g,h1,_⟩:=hv7.blk hzl;rw[h1];intro e;cases e
    (have n3:∀ (j:Nat) (h:j<rs.length),rs[j].ownBlock≠(Value.slice p1 p2 p3).ownBlock:=λ j h=>(own_ne (HLD.o.rows j h (by rw[<-HLD.o.rl];exact h)) hv7 hzl).symm);(have hrl:rs.length<=1000:=by have h:=HLD.o.rl;rw[zRP]at h;omega);have hb48:=zsb (zsb HBD.o hb7 HBD.o.size) hb8 (zLT HBD.o.size hb7.size);(have hc8:(w7.alloc (.cells #[.slice p1 p2 p3] 23)).cell? ⟨w7.heap.size,0,none⟩=some (.slice p1 p2 p3):=by go_simp);have hsz8:=hb48.size;have hslr:=hv7.sl;generalize w7.alloc (.cells #[.slice p1 p2 p3] 23)=w8 at *
    generalize w7.heap.size=g7 at *
    clear hv7 hb7 hb8 h7 HLD HCD HOD;(refine zW 9 ?_;intro K hK);refine hAR rfl _ _ (by rfl) w.heap.size (.slice r1 r2 r3) rs (by rfl) L8.ra (.slice p1 p2 p3) hslr g7 (by rfl) hc8 hrl hsz8 ?_;intro v9 w9 ho9 hg9 hn9 hs9;obtain⟨z1,z2,z3,rfl,_⟩:=id hs9;have hnv:(Value.slice r1 r2 r3).ownBlock≠some b:=C8.neR L8.ra.own zD;have C9:=C8.grown hg9 hnv;have O9:=O8.grown hg9 (zib.kindR O8 L8.ra zD);have h9:=L8.push hrow n1 n2 n3 ho9 hg9 hn9;rw[<-List.replicate_succ']at h9;have q1:=C9.cells.2.1;have g1:=C9.frozen 1;have HL10:=zH (h9.1.overC5 C9 (p:=⟨b,1,none⟩) rfl q1 zZ (.slice z1 z2 z3));have HC10:=zH (C9.set1 (.slice z1 z2 z3));have HO10:=zH (O9.grown (zed w9 ⟨b,1,none⟩ (.slice z1 z2 z3)) (Or.inr (C9.neR O9 zD)));have HB10:=zH ((hb48.trans h9.2).setCell (p:=⟨b,1,none⟩) (zLO HWB.o) (.slice z1 z2 z3))
    have hN9:w9.cell? ⟨w.heap.size,0,none⟩=some (.int .i64 (y2:Nat)):=by
     refine hg9.cell h8.2 ?_;intro e;rcases Nat.eq_zero_or_pos rs.length with h0 | h0
     ·rw[HNV.o (List.length_eq_zero_iff.1 h0)]at e;cases e
     ·obtain⟨g,k1,_,_,_,k2⟩:=L8.ra.blk h0;rw[k1]at e;(injection e with e);subst e;have k3:=L8.ra.cell 0 h0;rw[k2,h8.2]at k3;obtain⟨_,_,_,k4,_⟩:=(L8.rows 0 h0 (by rw[<-L8.rl];exact h0)).sl;rw[k4]at k3;cases k3
    have hN10:(w9.setCell ⟨b,1,none⟩ (.slice z1 z2 z3)).cell? ⟨w.heap.size,0,none⟩=some (.int .i64 (y2:Nat)):=by
     rw[zCO _ _ _ _ (λ e=>by injection e with e;have:=HWB.o;omega)];exact hN9
    have HN10:=zH hN10;have hH9:=zAI q1 hN9;refine hK.o _ _ (λ _=>hH9) ?_;clear hK K h9 C9 C8 L8 O8 O9 hnv hrow n1 n2 n3 ho9 hg9 hn9 hs9 hb48 hN10 h8 hc8;refine zS ?_;(refine zW 10 ?_;intro K hK);rw[zIP (by rfl)];go_simp;refine hK.o _ _ (λ _=>hH9) ?_;clear hK K;refine zS ?_;(refine zW 11 ?_;intro K hK);rw[zIP (by rfl)];go_simp;refine hK.o _ _ (λ _=>hH9) ?_;clear hK K;refine zS ?_;(refine zW 12 ?_;intro K hK);rw[zIP (by rfl)];go_simp;refine hK.o _ _ (λ _=>hH9) ?_;clear hK K;refine zS ?_;(refine zW 13 ?_;intro K hK);rw[zIP (by rfl)];go_simp;refine hK.o _ _ (λ h=>by first | cases h | simp at h) ?_;clear hK K q1 g1 hN9 hH9;refine wpL.done (by kernel_rfl) ?_ _;go_wp2_with fail;go_roundg (y2- (i+1));(case measure=>(have:=HG.o;omega));case rel=>exact⟨i+1,_,_,zO,rfl,by go_num,HL10.o,λ h=>by simp at h,HC10.o,HO10.o,HN10.o,HB10.o⟩
   ·obtain rfl:i=y2:=zO;go_wp2_with fail;go_ret;(have e:L.length+1=i:=by rw[HM.o];exact HMN.o);rw[e];refine⟨b,_,_,_,rs,rfl,⟨zLO HWB.o,HC.o,?_,HLO.o,zLR _,λ j h k hk=>((HL.o.rows j h (by rw[<-HL.o.rl];exact h)).block k hk).2,λ k hk=>(HL.o.s.block k hk).2⟩,HBR.o⟩;rw[<-zeros_row,<-zeros_tab];exact HL.o
end Go.Proofs.YtkpedaflofejnaaGreat
