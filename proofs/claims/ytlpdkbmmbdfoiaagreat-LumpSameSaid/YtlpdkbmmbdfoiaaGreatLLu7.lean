/-
  package lump: Quotient.
-/
import Derived.Test.YtlpdkbmmbdfoiaaGreatLLu6
import Derived.Test.YtlpdkbmmbdfoiaaGreatLKp
import Derived.Deep.CutRange
import Derived.Deep.DeepCutAuto
set_option linter.unusedVariables false
set_option linter.unusedSimpArgs false
namespace Go.Proofs.YtlpdkbmmbdfoiaaGreat
set_option maxHeartbeats 3200000
open Go.RowKit
def mkE (w:World) (e:TypeId) (z:Value) (n:Nat):World:=w.alloc (.cells (madeCells #[z] (n*1)) e)
theorem mkE_size (w:World) (e:TypeId) (z:Value) (n:Nat):(mkE w e z n).heap.size=w.heap.size+1:=by simp[mkE]
theorem ziv (w:World) (e:TypeId) (z:Value) (n:Nat):Below w.heap.size w (mkE w e z n):=zca w _
theorem zce.mk {B:Nat} (w:World) (e:TypeId) (z:Value) (n:Nat) (hB:B≤w.heap.size) (hn:n≤128):zce (mkE w e z n) e B (.slice (some ⟨w.heap.size,0,none⟩) n n) (List.replicate n z):=by
 have:=World.ownsRow_lit (size:=1) (base:=B) w (madeCells #[z] (n*1)) (e:=e) n hB (by simp[maxLen];omega) (size_madeCells _ _)
 have h2:(madeCells #[z] (n*1)).toList=List.replicate n z:=by rw[Nat.mul_one,toList_madeCells_one]
 rw[h2]at this
 unfold zce
 rw[List.length_replicate]
 exact this
theorem zce.mkE {w:World} {e e':TypeId} {B:Nat} {v z:Value} {es:List Value} {n:Nat} (h:zce w e' B v es):zce (mkE w e z n) e' B v es:=h.below (ziv w e z n)
theorem run_mkE {P:Program} (t e:TypeId) (i:TypeInfo) (z:Value) (by':Nat) (h1:P.underlying t=some (.slice e)) (h2:P.info? e=some i) (h3:i.zero=some z) (h4:i.size=1) (h5:i.bytes=by') (hby:by'≤32) (hz:z.cells=#[z])
 (n:Nat) (hn:n≤128) (w:World):(Instr.makeSlice t (.int .i64 (n:Int)) (.int .i64 (n:Int))).run P w= .ok (.slice (some ⟨w.heap.size,0,none⟩) n n) (mkE w e z n):=by
 have hb:i.bytes*n≤281474976710656:=by rw[h5];exact Nat.le_trans (Nat.mul_le_mul hby hn) (by decide)
 have hb2:(i.bytes:Int)*(n:Int)≤281474976710656:=by
  have h:((i.bytes*n:Nat):Int)≤281474976710656:=by omega
  rwa[Int.natCast_mul]at h
 have hr:=run_make (P:=P) w t e i z h1 h2 h3 .i64 .i64 n n (by omega) (Int.le_refl _) hb2 (by omega)
 simp only[Int.toNat_natCast]at hr
 rw[hr,h4,hz]
 rfl
@[go_sem] theorem cell_mkE (w : World) (e : TypeId) (z : Value) (n : Nat) (p : Addr) (hp : p.block < w.heap.size) : (mkE w e z n).cell? p = w.cell? p := (ziv w e z n).cell hp
@[go_sem] theorem frozen_mkE (w : World) (e : TypeId) (z : Value) (n : Nat) (p : Addr) (hp : p.block < w.heap.size) : (mkE w e z n).frozen? p = w.frozen? p := (ziv w e z n).frozen hp
@[go_sem] theorem zhx (w : World) (e : TypeId) (z : Value) (n : Nat) : (mkE w e z n).heap.size = w.heap.size + 1 := mkE_size w e z n
theorem zzy {w1 X Y:World} {p:Addr} {v:Value} (h:X.cell? p=some v∧Below w1.heap.size w1 X) (hb:Below X.heap.size X Y):Y.cell? p=some v∧Below w1.heap.size w1 Y:=⟨zba hb h.1,zaa h.2 hb⟩
theorem keep_b {w1 X:World} {p:Addr} {v:Value} (h:X.cell? p=some v∧Below w1.heap.size w1 X):Below w1.heap.size w1 X:=h.2
theorem keep_set3 {w1 X:World} {q b:Nat} {v:Value} (h:X.cell? ⟨q,1,none⟩=some v∧Below w1.heap.size w1 X) (hq:q<w1.heap.size) (hb:w1.heap.size≤b) (x y z:Value):
 (((X.setCell ⟨b,0,none⟩ x).setCell ⟨b,1,none⟩ y).setCell ⟨b,2,none⟩ z).cell? ⟨q,1,none⟩=some v∧Below w1.heap.size w1 (((X.setCell ⟨b,0,none⟩ x).setCell ⟨b,1,none⟩ y).setCell ⟨b,2,none⟩ z):=by
 have h2:=zga h.2 hb x y z
 refine⟨?_,h2⟩
 rw[h2.cell (by exact hq),←h.2.cell (by exact hq)]
 exact h.1
theorem zaz {w1 X:World} {q:Nat} {v:Value} {o:Obj} (h:(X.alloc o).cell? ⟨q,1,none⟩=some v∧Below w1.heap.size w1 (X.alloc o)) (hq:q<w1.heap.size) (hX:w1.heap.size≤X.heap.size) (o':Obj):
 (X.alloc o').cell? ⟨q,1,none⟩=some v∧Below w1.heap.size w1 (X.alloc o'):=by
 have h0:Below w1.heap.size w1 X:=by
  refine⟨h.2.os,h.2.tape,h.2.output,hX,fun k hk=> ?_⟩
  rw[←h.2.block k hk]
  exact((zca X o).block k (by omega)).symm
 have h2:=h0.alloc hX o'
 refine⟨?_,h2⟩
 rw[h2.cell (by exact hq),←h.2.cell (by exact hq)]
 exact h.1
theorem C3.mkE {w:World} {b:Nat} {v0 v1 v2 z:Value} {e:TypeId} {n:Nat} (h:C3 w b v0 v1 v2):C3 (mkE w e z n) b v0 v1 v2:=h.belowS (ziv w e z n)
def QuoL (c:RC) (bl:List Int) (w1:World) (u8:Value) (wx:World):Prop:=∃ (v3 v4:Value) (g5 B8:Nat),u8= .pointer (some ⟨B8,0,none⟩)∧w1.heap.size≤B8∧C3 wx B8 v3 (.slice (some ⟨g5,0,none⟩) (cnt bl) (cnt bl)) v4∧
 zce wx 25 w1.heap.size v3 (List.replicate (cnt bl) (.slice none 0 0))∧zce wx 4 w1.heap.size v4 (List.replicate (cnt bl) (.bool false))∧
 zbb wx (.slice (some ⟨g5,0,none⟩) (cnt bl) (cnt bl)) (ztw bl (qs c.start) (cnt bl))∧(base v3).block≠(base v4).block∧(base v3).block≠B8∧(base v4).block≠B8∧(base v3).block≠g5∧(base v4).block≠g5∧g5≠B8∧w1.heap.size≤g5∧(base v4).block<wx.heap.size∧(base v3).block<wx.heap.size∧Below w1.heap.size w1 wx
theorem quo_lit {c:RC} {bl:List Int} {w1 X:World} {a3 a4 g5 B8:Nat} (h8B:w1.heap.size≤B8) (h8:C3 X B8 (.slice none 0 0) (.slice none 0 0) (.slice none 0 0))
 (h3:zce X 25 w1.heap.size (.slice (some ⟨a3,0,none⟩) (cnt bl) (cnt bl)) (List.replicate (cnt bl) (.slice none 0 0))) (h4:zce X 4 w1.heap.size (.slice (some ⟨a4,0,none⟩) (cnt bl) (cnt bl)) (List.replicate (cnt bl) (.bool false)))
 (h5:zbb X (.slice (some ⟨g5,0,none⟩) (cnt bl) (cnt bl)) (ztw bl (qs c.start) (cnt bl))) (n34:a3≠a4) (n38:a3≠B8) (n48:a4≠B8) (n35:a3≠g5) (n45:a4≠g5) (n58:g5≠B8) (h5B:w1.heap.size≤g5) (hpos:0<cnt bl) (hbb:Below w1.heap.size w1 (((X.setCell ⟨B8,0,none⟩ (.slice (some ⟨a3,0,none⟩) (cnt bl) (cnt bl))).setCell ⟨B8,1,none⟩ (.slice (some ⟨g5,0,none⟩) (cnt bl) (cnt bl))).setCell ⟨B8,2,none⟩ (.slice (some ⟨a4,0,none⟩) (cnt bl) (cnt bl)))):
 QuoL c bl w1 (.pointer (some ⟨B8,0,none⟩)) (((X.setCell ⟨B8,0,none⟩ (.slice (some ⟨a3,0,none⟩) (cnt bl) (cnt bl))).setCell ⟨B8,1,none⟩ (.slice (some ⟨g5,0,none⟩) (cnt bl) (cnt bl))).setCell ⟨B8,2,none⟩ (.slice (some ⟨a4,0,none⟩) (cnt bl) (cnt bl))):=by
 have hs:=h8.set (.slice (some ⟨a3,0,none⟩) (cnt bl) (cnt bl)) (.slice (some ⟨g5,0,none⟩) (cnt bl) (cnt bl)) (.slice (some ⟨a4,0,none⟩) (cnt bl) (cnt bl))
 obtain⟨_,c0,c1,c2,_,_,_⟩:=id h8
 have k3:=(h3.block (by rw[List.length_replicate];exact hpos)).2
 have k4:=(h4.block (by rw[List.length_replicate];exact hpos)).2
 have hsz:(((X.setCell ⟨B8,0,none⟩ (.slice (some ⟨a3,0,none⟩) (cnt bl) (cnt bl))).setCell ⟨B8,1,none⟩ (.slice (some ⟨g5,0,none⟩) (cnt bl) (cnt bl))).setCell ⟨B8,2,none⟩ (.slice (some ⟨a4,0,none⟩) (cnt bl) (cnt bl))).heap.size=X.heap.size:=by simp[World.setCell]
 refine⟨_,_,g5,B8,rfl,h8B,hs,((h3.other _ _ (by exact n38.symm)).other _ _ (by exact n38.symm)).other _ _ (by exact n38.symm),((h4.other _ _ (by exact n48.symm)).other _ _ (by exact n48.symm)).other _ _ (by exact n48.symm),?_,n34,n38,n48,n35,n45,n58,h5B,by rw[hsz];exact k4,by rw[hsz];exact k3,hbb⟩
 have q1:=h5.over (p:=⟨B8,0,none⟩) (u:=(.slice (some ⟨a3,0,none⟩) (cnt bl) (cnt bl))) (show B8≠g5 from n58.symm) c0 (fun z=>by simp)
 have q2:=q1.over (p:=⟨B8,1,none⟩) (x:= .slice none 0 0) (u:=(.slice (some ⟨g5,0,none⟩) (cnt bl) (cnt bl))) (show B8≠g5 from n58.symm) (by rw[World.cell?_setCell_other _ _ _ _ (by simp)];exact c1) (fun z=>by simp)
 exact q2.over (p:=⟨B8,2,none⟩) (x:= .slice none 0 0) (u:=(.slice (some ⟨a4,0,none⟩) (cnt bl) (cnt bl))) (show B8≠g5 from n58.symm) (by rw[World.cell?_setCell_other _ _ _ _ (by simp),World.cell?_setCell_other _ _ _ _ (by simp)];exact c2) (fun z=>by simp)
theorem quo_lit2 {c:RC} {bl:List Int} {w1 X:World} {a3 a4 g5 B8:Nat} (hB8:X.heap.size=B8) (h8B:w1.heap.size≤B8)
 (h3:zce X 25 w1.heap.size (.slice (some ⟨a3,0,none⟩) (cnt bl) (cnt bl)) (List.replicate (cnt bl) (.slice none 0 0))) (h4:zce X 4 w1.heap.size (.slice (some ⟨a4,0,none⟩) (cnt bl) (cnt bl)) (List.replicate (cnt bl) (.bool false)))
 (h5:zbb X (.slice (some ⟨g5,0,none⟩) (cnt bl) (cnt bl)) (ztw bl (qs c.start) (cnt bl))) (n34:a3≠a4) (n35:a3≠g5) (n45:a4≠g5) (h5B:w1.heap.size≤g5) (hpos:0<cnt bl)
 (hbb:Below w1.heap.size w1 (X.alloc (.cells #[.slice (some ⟨a3,0,none⟩) (cnt bl) (cnt bl), .slice (some ⟨g5,0,none⟩) (cnt bl) (cnt bl), .slice (some ⟨a4,0,none⟩) (cnt bl) (cnt bl)] 28))):
 QuoL c bl w1 (.pointer (some ⟨B8,0,none⟩)) (X.alloc (.cells #[.slice (some ⟨a3,0,none⟩) (cnt bl) (cnt bl), .slice (some ⟨g5,0,none⟩) (cnt bl) (cnt bl), .slice (some ⟨a4,0,none⟩) (cnt bl) (cnt bl)] 28)):=by
 subst hB8
 have k3:a3<X.heap.size:=(h3.block (by rw[List.length_replicate];exact hpos)).2
 have k4:a4<X.heap.size:=(h4.block (by rw[List.length_replicate];exact hpos)).2
 have k5:g5<X.heap.size:=by
  obtain⟨_,_,r1,_⟩:=h5.at' 0 (by rw[zsw];exact hpos)
  have:=World.block_lt_of_cell? X _ r1
  rwa[zsa]at this
 have hx:=zca X (.cells #[.slice (some ⟨a3,0,none⟩) (cnt bl) (cnt bl), .slice (some ⟨g5,0,none⟩) (cnt bl) (cnt bl), .slice (some ⟨a4,0,none⟩) (cnt bl) (cnt bl)] 28)
 refine⟨_,_,g5,_,rfl,h8B,C3.new X _ _ _ _,h3.below hx,h4.below hx,h5.below hx,n34,Nat.ne_of_lt k3,Nat.ne_of_lt k4,n35,n45,Nat.ne_of_lt k5,h5B,?_,?_,hbb⟩
 ·rw[zfk];exact Nat.lt_succ_of_lt k4
 ·rw[zfk];exact Nat.lt_succ_of_lt k3
theorem zce.mkB {B a:Nat} (w:World) (e:TypeId) (z:Value) (n:Nat) (ha:w.heap.size=a) (hB:B≤a) (hn:n≤128):zce (Go.Proofs.YtlpdkbmmbdfoiaaGreat.mkE w e z n) e B (.slice (some ⟨a,0,none⟩) n n) (List.replicate n z):=by
 subst ha;exact zce.mk w e z n hB hn
theorem zce.al {w:World} {e':TypeId} {B:Nat} {v:Value} {es:List Value} {o:Obj} (h:zce w e' B v es):zce (w.alloc o) e' B v es:=h.alloc o
theorem zce.dr {w:World} {e':TypeId} {B:Nat} {v:Value} {es:List Value} (h:zce w e' B v es):zce w.drew e' B v es:=h.below (zja w)
theorem zbb.mkE {w:World} {v z:Value} {q:List Rat} {e:TypeId} {n:Nat} (h:zbb w v q):zbb (Go.Proofs.YtlpdkbmmbdfoiaaGreat.mkE w e z n) v q:=h.below (ziv w e z n)
theorem keep2 {w:World} {a1 a2:Addr} {x1 x2:Value} (h:w.cell? a1=some x1∧w.cell? a2=some x2) {g n:Nat} {v:Value} (h1:g≠a1.block) (h2:g≠a2.block) (i j k:Nat) (x y z:Value) (hv:v= .slice (some ⟨g,0,none⟩) n n:=by rfl):
 (((w.setCell (ptr v i) x).setCell (ptr v j) y).setCell (ptr v k) z).cell? a1=some x1∧(((w.setCell (ptr v i) x).setCell (ptr v j) y).setCell (ptr v k) z).cell? a2=some x2:=by
 subst hv
 have key:∀ (w:World) (i:Nat) (u:Value) a x,w.cell? a=some x→g≠a.block→(w.setCell (ptr (.slice (some ⟨g,0,none⟩) n n) i) u).cell? a=some x:=fun w i u a x ha hp=>by
  rw[World.cell?_setCell_other _ _ _ _ (fun e=>hp (by rw[←e,zsa];rfl))];exact ha
 exact⟨key _ _ _ _ _ (key _ _ _ _ _ (key _ _ _ _ _ h.1 h1) h1) h1,key _ _ _ _ _ (key _ _ _ _ _ (key _ _ _ _ _ h.2 h2) h2) h2⟩
theorem Tryz.aggChQ (w:World):(isAgg 28).run Tryz.prog w= .ok true w:=by go_simp
theorem Tryz.sizeChQ (w:World):(sizeOf 28).run Tryz.prog w= .ok 3 w:=by go_simp
theorem zzz.below {c:RC} {bl:List Int} {tF tB:TypeId} {B3 B4 B5:Nat} {v3 v4:Value} {k:Nat} {es:List Value} {fs:List Bool} {wr w5:World}
 (h:zzz c bl tF tB B3 B4 B5 v3 v4 k es fs wr) (hb:Below wr.heap.size wr w5):zzz c bl tF tB B3 B4 B5 v3 v4 k es fs w5:=by
 obtain⟨h3,hel,h4,hfl,hseen,hnew⟩:=h
 refine⟨h3.below hb,hel,h4.below hb,hfl,fun b hb'=> ?_,hnew⟩
 obtain⟨a,n,kk,q1,q2,q3,q4⟩:=hseen b hb'
 exact⟨a,n,kk,q1,q2.below hb,q3,q4⟩
theorem zzz.setOne {c:RC} {bl:List Int} {tF tB:TypeId} {B3 B4 B5:Nat} {v3 v4:Value} {k:Nat} {es:List Value} {fs:List Bool} {wr:World}
 (h:zzz c bl tF tB B3 B4 B5 v3 v4 k es fs wr) (hpos:0<cnt bl) {p:Addr} {x:Value} (h3':p.block<B3) (h4':p.block<B4) (h5':p.block<B5) (hc:wr.cell? p=some x) (hx:∀z,x≠ .int .u32 z) (u:Value):zzz c bl tF tB B3 B4 B5 v3 v4 k es fs (wr.setCell p u):=by
 obtain⟨h3,hel,h4,hfl,hseen,hnew⟩:=h
 have b3:=(h3.block (by omega)).1
 have b4:=(h4.block (by rw[List.length_map];omega)).1
 refine⟨h3.other p u (by omega),hel,h4.other p u (by omega),hfl,fun b hb'=> ?_,hnew⟩
 obtain⟨a,n,kk,q1,q2,q3,q4⟩:=hseen b hb'
 exact⟨a,n,kk,q1,q2.over (show p.block≠a.block by omega) hc hx,q3,q4⟩
theorem quo_out {c:RC} {bl:List Int} {tF tB:TypeId} {B3 B4 B5 g5:Nat} {v3 v4:Value} {es:List Value} {fs:List Bool} {w:World} (h:zzz c bl tF tB B3 B4 B5 v3 v4 bl.length es fs w) (hpos:0<cnt bl)
 (hS:zbb w (.slice (some ⟨g5,0,none⟩) (cnt bl) (cnt bl)) (ztw bl (qs c.start) (cnt bl))) {b:Nat} (hC:C3 w b (.slice none 0 0) (.slice none 0 0) (.slice none 0 0)) (h3':b<B3) (h4':b<B4) (h5':b<B5) (hg:b≠g5) (u0 u1 u2:Value):
 zlq (((w.setCell ⟨b,0,none⟩ u0).setCell ⟨b,1,none⟩ u1).setCell ⟨b,2,none⟩ u2) (.agg #[v3, .slice (some ⟨g5,0,none⟩) (cnt bl) (cnt bl),v4]) (quo c bl):=by
 obtain⟨_,c0,c1,c2,_,_,_⟩:=hC
 have c1':(w.setCell ⟨b,0,none⟩ u0).cell? ⟨b,1,none⟩=some (.slice none 0 0):=by rw[World.cell?_setCell_other _ _ _ _ (by simp)];exact c1
 have c2':((w.setCell ⟨b,0,none⟩ u0).setCell ⟨b,1,none⟩ u1).cell? ⟨b,2,none⟩=some (.slice none 0 0):=by rw[World.cell?_setCell_other _ _ _ _ (by simp),World.cell?_setCell_other _ _ _ _ (by simp)];exact c2
 have k1:=h.setOne hpos (p:=⟨b,0,none⟩) h3' h4' h5' c0 (fun z=>by simp) u0
 have k2:=k1.setOne hpos (p:=⟨b,1,none⟩) h3' h4' h5' c1' (fun z=>by simp) u1
 have k3:=k2.setOne hpos (p:=⟨b,2,none⟩) h3' h4' h5' c2' (fun z=>by simp) u2
 have m1:=hS.over (p:=⟨b,0,none⟩) (u:=u0) hg c0 (fun z=>by simp)
 have m2:=m1.over (p:=⟨b,1,none⟩) (u:=u1) hg c1' (fun z=>by simp)
 have m3:=m2.over (p:=⟨b,2,none⟩) (u:=u2) hg c2' (fun z=>by simp)
 obtain⟨d1,d2⟩:=k3.done
 exact⟨_,_,_,rfl,d1,m3,d2⟩
def zeroCh :Value:= .agg #[.slice none 0 0, .slice none 0 0, .slice none 0 0]
def RQuo (w0:World) (c:RC) (bl:List Int) (e:Ending) (w:World):Prop:=
 ∃v er,e= .returned (.tuple #[v, .int .i64 er])∧Below w0.heap.size w0 w∧(¬zex c bl→er=1∧v=zeroCh)∧(zex c bl→zzp (quo c bl).raw→er=0∧zlq w v (quo c bl))∧(zex c bl→¬zzp (quo c bl).raw→er=2∧v=zeroCh)
set_option maxRecDepth 100000 in
theorem quo_main (va vb:Value) (c:RC) (bl:List Int) (w:World) (ha:zdq w va c) (hb:zgv w vb bl) (hck:zex c bl):
 Calls Tryz.prog 16 #[va,vb] w (RQuo w c bl):=by
 obtain⟨hok,h0,hlen,hv,hagree⟩:=id hck
 obtain⟨i1,hi1,hz1,hs1,hy1⟩:=info_parts Tryz.infoRow
 obtain⟨i2,hi2,hz2,hs2,hy2⟩:=info_parts Tryz.infoBool
 have hEQ:∀ (w:World) (a:Option Addr) (n c:Nat),(binOp .eql 25 (.slice a n c) (.slice none 0 0)).run Tryz.prog w= .ok (.bool a.isNone) w:=fun w a n c=>by
  rw[Lib.run_eql_slice_nil w 25 38 a n c 0 0 Tryz.underlying25]
 obtain⟨rv,sv,lv,rfl,hr,hs,hl⟩:=id ha
 obtain⟨ra,rn,rk,rfl,r1,r2,r3⟩:=id hr.sl
 obtain⟨sa,sn,sk,rfl,s1,s2,s3⟩:=id hs.sl
 obtain⟨la,ln,lk,rfl,l1,l2,l3⟩:=id (zhc.sl hl)
 have hsl:sn=c.start.length:=hs.len
 subst hsl
 have hln:ln=c.lost.length:=hl.len
 subst hln
 have sb:=zhc.sl hb
 have lb:=hb.len
 have hle:=sb.le
 rw[lb]at hle
 have hbl2:bl.length≤9223372036854775807:=by omega
 have hbl3:bl.length≤128:=by have:=hv;unfold zzp at this;omega
 have hcl:cnt bl≤bl.length:=by have:=cnt_le bl bl.length;rwa[List.take_length]at this
 clear hle
 unfold maxLen at s2
 have hpos:0<cnt bl:=cnt_pos hok h0
 have hbx:=zca w (.cells #[.slice ra rn rk, .slice sa c.start.length sk, .slice la c.lost.length lk] 28)
 have hC:=C3.new w 28 (.slice ra rn rk) (.slice sa c.start.length sk) (.slice la c.lost.length lk)
 have ha2:=ha.below hbx
 have hb2:=hb.below hbx
 have HCK:=zH hck
 have HA:=zH ha2
 have HOK:=zH hok
 have HV:=zH hv
 have HC:=zH hC
 have HV4:Hid (c.rates.length=c.start.length):=zH hv.2.2.2.1
 have HV3:Hid (c.lost.length=c.start.length):=zH hv.2.2.1
 have HVR:Hid (∀i r,c.rates[i]? =some r→zlr r c.start.length):=zH (fun i r h=>(hv.2.2.2.2.2.1 i r h).1)
 have HVS:Hid (zlr c.start c.start.length):=zH hv.2.2.2.2.1
 have HLEN:=zH hlen
 have HI:=zH (And.intro (And.intro hi1 (And.intro hz1 (And.intro hs1 hy1))) (And.intro hi2 (And.intro hz2 (And.intro hs2 hy2))))
 clear hC ha2 ha hok hv hck hagree hi1 hz1 hs1 hy1 hi2 hz2 hs2 hy2
 generalize hsn:c.start.length=sn at *
 have HSN:=zH hsn
 clear hsn
 subst hlen
 go_enter Tryz.func16,Tryz.ntmps16
 have hcx:=zca (w.alloc (.cells #[.slice ra rn rk, .slice sa bl.length sk, .slice la c.lost.length lk] 28)) (.cells #[.slice none 0 0, .slice none 0 0, .slice none 0 0] 28)
 go_upto_region 4 with(first
  |(go_at_call 64;(with_reducible refine(zay _ _ c bl _ (HA.out.below hcx) (hb2.below hcx)).mono ?_);rintro e1 w1 ⟨⟨b1,rfl,hb1⟩,hbel1⟩;obtain rfl:b1=true:=hb1.2 HCK.out;clear hb1)
  |(go_at_call 65;(with_reducible refine(zbx _ bl _ ((hb2.below hcx).below hbel1)).mono ?_);rintro e2 w2 ⟨n2,b2,rfl,rfl,hc2,_⟩;obtain⟨hn2,hb2'⟩:=hc2 HOK.out;obtain rfl:b2=true:=hb2'.trans (decide_eq_true h0);subst hn2;clear hc2 hb2'))
 have hcx1:=zaa hcx hbel1
 have hbw1:=zaa hbx hcx1
 have hC1:=HC.out.belowS hcx1
 have hR:=(C3.new (w.alloc (.cells #[.slice ra rn rk, .slice sa bl.length sk, .slice la c.lost.length lk] 28)) 28 (.slice none 0 0) (.slice none 0 0) (.slice none 0 0)).belowS hbel1
 have hR0:(w.alloc (.cells #[.slice ra rn rk, .slice sa bl.length sk, .slice la c.lost.length lk] 28)).heap.size=w.heap.size+1:=by simp
 rw[hR0]at hR
 have HR:=zH hR
 have HC1:=zH hC1
 have hws:w.heap.size+1<w1.heap.size:=hR.lt
 have HSN2:=HSN.out
 have hcn:cnt bl≤128:=by omega
 have hsN:=(hs.below hbx).below hcx1
 have hbN:=hb2.below hcx1
 have hHS:=zH (And.intro hsN hbN)
 have HROWS:Hid (zlr c.start c.start.length):=zH (by have:=HVS.out;rw[HSN2];exact this)
 have hsl2:c.start.length=bl.length:=HSN2
 clear hR0 hC1 hR HSN2
 go_cut [8]from 11 (fun u8 wx=>QuoL c bl w1 u8 wx)
 case first =>
  have hcur:=zja (B:=w1.heap.size) w1
  have hcD:=HC1.out.belowS hcur
  obtain⟨_,c0,c1,c2,_,_,_⟩:=id hcD
  obtain⟨⟨hi1,hz1,hs1,hy1⟩,⟨hi2,hz2,hs2,hy2⟩⟩:=HI.out
  have hM1:=run_mkE (P:=Tryz.prog) 24 25 i1 _ 24 Tryz.underlying24 hi1 hz1 hs1 hy1 (by decide) rfl (cnt bl) hcn
  have hM2:=run_mkE (P:=Tryz.prog) 26 4 i2 _ 1 Tryz.underlying26 hi2 hz2 hs2 hy2 (by decide) rfl (cnt bl) hcn
  clear hi1 hz1 hs1 hy1 hi2 hz2 hs2 hy2
  clear hcur hcD c0 c2
  have HQ:Hid (w.heap.size<w1.heap.size):=zH (by omega)
  go_region_held3 (fun w'=>w'.cell? ⟨w.heap.size,1,none⟩=some (.slice sa bl.length sk)∧Below w1.heap.size w1 w') (first
   | with_reducible exact⟨c1,zja w1⟩
   | with_reducible exact zzy (by assumption) (ziv _ _ _ _)
   | with_reducible exact zzy (by assumption) (zca _ _)
   | with_reducible exact zzy (by assumption) (by assumption)
   | with_reducible exact keep_set3 (by assumption) HQ.out (by omega) _ _ _
   | with_reducible exact zaz (by assumption) HQ.out (by first | omega | exact Nat.le_refl _) _
   | with_reducible exact zaz (by assumption) HQ.out (by simp only[zhx,zfk,zvo];omega) _
   | with_reducible exact zaz (by assumption) HQ.out (by omega) _) (first
   |(go_at_call 66;(with_reducible refine(zxx _ _ c.start bl _ _ (hHS.out.1.below (keep_b (by assumption))) (hHS.out.2.below (keep_b (by assumption))) hsl2 HOK.out rfl hcn HROWS.out).mono ?_);rintro e5 w5 ⟨v5,rfl,how5,hel5,hbel5⟩;obtain⟨g5,cs5,rfl,_⟩:=id how5;have zz:=Nat.le_trans (keep_b (by assumption):Below w1.heap.size w1 _).size hbel5.size;have hc5:=(fun(p:Addr) hp=>hbel5.cell (p:=p) hp);have hf5:=(fun(p:Addr) hp=>hbel5.frozen (p:=p) hp);have zd:w1.drew.heap.size=w1.heap.size:=rfl;have zq:=hbel5.size;(try simp only[zhx,zfk,zvo]at zq);(try have z1:w1.heap.size<w5.heap.size:=by omega);(try have z2:w1.heap.size+1<w5.heap.size:=by omega);(try have z3:w1.heap.size+1+1<w5.heap.size:=by omega)))
  all_goals
   have k5:_≤g5∧g5<w5.heap.size:=how5.block
   simp only[zhx,zfk,zvo]at k5
   have hF5:zbb w5 (.slice (some ⟨g5,0,none⟩) (cnt bl) (cnt bl)) (ztw bl (qs c.start) (cnt bl)):=how5.fracs (zsw _ _ _) (fun j hj=>by rw[zsw]at hj;rw[zuw _ _ _ _ hj];exact hel5 j hj)
   go_wp2_with fail
   go_meet
   case rel=>
    first
     |(with_reducible refine quo_lit2 ?_ ?_ ?_ ?_ ?_ ?_ ?_ ?_ ?_ hpos ?_
       ·simp only[zhx,zfk,zvo]
       ·omega
       ·repeat (first | (with_reducible exact zce.mkB _ _ _ _ (by simp only[zhx,zfk,zvo]) (by omega) hcn) | with_reducible refine zce.mkE ?_ | with_reducible refine zce.al ?_ | with_reducible refine zce.dr ?_ | with_reducible refine zce.below ?_ hbel5)
       ·repeat (first | (with_reducible exact zce.mkB _ _ _ _ (by simp only[zhx,zfk,zvo]) (by omega) hcn) | with_reducible refine zce.mkE ?_ | with_reducible refine zce.al ?_ | with_reducible refine zce.dr ?_ | with_reducible refine zce.below ?_ hbel5)
       ·repeat (first | with_reducible exact hF5 | with_reducible refine zbb.mkE ?_ | with_reducible refine zbb.al ?_)
       ·omega
       ·omega
       ·omega
       ·omega
       ·(with_reducible refine keep_b (p:=⟨w.heap.size,1,none⟩) (v:= .slice sa bl.length sk) ?_);assumption)
     |(with_reducible refine quo_lit ?_ ?_ ?_ ?_ ?_ ?_ ?_ ?_ ?_ ?_ ?_ ?_ hpos ?_
       ·omega
       ·repeat (first | (with_reducible exact C3.newB _ _ _ _ _ (by simp only[zhx,zfk,zvo])) | with_reducible refine C3.mkE ?_ | with_reducible refine C3.dr ?_ | with_reducible refine C3.belowS ?_ hbel5)
       ·repeat (first | (with_reducible exact zce.mkB _ _ _ _ (by simp only[zhx,zfk,zvo]) (by omega) hcn) | with_reducible refine zce.mkE ?_ | with_reducible refine zce.al ?_ | with_reducible refine zce.dr ?_ | with_reducible refine zce.below ?_ hbel5)
       ·repeat (first | (with_reducible exact zce.mkB _ _ _ _ (by simp only[zhx,zfk,zvo]) (by omega) hcn) | with_reducible refine zce.mkE ?_ | with_reducible refine zce.al ?_ | with_reducible refine zce.dr ?_ | with_reducible refine zce.below ?_ hbel5)
       ·repeat (first | with_reducible exact hF5 | with_reducible refine zbb.mkE ?_ | with_reducible refine zbb.al ?_)
       ·omega
       ·omega
       ·omega
       ·omega
       ·omega
       ·omega
       ·omega
       ·(with_reducible refine keep_b (p:=⟨w.heap.size,1,none⟩) (v:= .slice sa bl.length sk) ?_);assumption)
 case rest=>
  obtain⟨v3,v4,g5,B8,rfl,h8B,hC8,h3,h4,h5,n34,n38,n48,n35,n45,n58,h5B,k4,k3,hbw⟩:=hcut
  have hk3:=(h3.block (by rw[List.length_replicate];exact hpos)).1
  have hk4:=(h4.block (by rw[List.length_replicate];exact hpos)).1
  have H34:=zH (And.intro h3 h4)
  have s3:=h3.sl
  have s4:=h4.sl
  have l3:slen v3=cnt bl:=by rw[h3.len,List.length_replicate]
  have l4:slen v4=cnt bl:=by rw[h4.len,List.length_replicate]
  have HC8:=zH hC8
  have H5:=zH h5
  have h8lt:=hC8.lt
  have hg5lt:g5<wc.heap.size:=by
   obtain⟨_,_,r1,_⟩:=h5.at' 0 (by rw[zsw];exact hpos)
   have:=World.block_lt_of_cell? wc _ r1
   rwa[zsa]at this
  have hbw1':=zaa hbx (zaa hcx1 hbw)
  clear h3 h4 h5 hC8
  go_wp2_with fail
  go_loopw [33] (fun u33 wr=>∃ (k:Nat) (es:List Value) (fs:List Bool),k≤bl.length∧u33= .int .i64 k∧zzz c bl 25 4 w1.heap.size w1.heap.size wc.heap.size v3 v4 k es fs wr∧wc.heap.size≤wr.heap.size∧Below w1.heap.size wc wr∧
   C3 wr B8 v3 (.slice (some ⟨g5,0,none⟩) (cnt bl) (cnt bl)) v4∧zbb wr (.slice (some ⟨g5,0,none⟩) (cnt bl) (cnt bl)) (ztw bl (qs c.start) (cnt bl))) (fun u33 _=>bl.length- (intOf u33).toNat)
  case atStart=>exact⟨0,_,_,Nat.zero_le _,rfl,zzz.start _ H34.out.1 H34.out.2,Nat.le_refl _,Below.refl _ _,HC8.out,H5.out⟩
  case round=>
   obtain⟨k,es,fs,hk,rfl,hI,hws,hbr,h8,hS⟩:=hrel
   have HI2:=zH hI
   have HS:=zH hS
   have H8:=zH h8
   obtain⟨h3,hel,h4,hfl,hseen,hnew⟩:=hI
   have HSEEN:=zH hseen
   have HNEW:=zH hnew
   clear hseen hnew hS
   have hb5:=zaa hcx1 (hbw.trans hbr)
   have hcr:=HC.out.belowS hb5
   have hRr:=HR.out.below (hbw.trans hbr) (by omega)
   have HRr:=zH hRr
   clear hRr
   by_cases hkl:k<bl.length
   ·have hbk:=(hb2.below hb5).at' k hkl
    have HG:Hid (bl[k]? =some (bl[k]'hkl)):=zH (List.getElem?_eq_getElem hkl)
    obtain⟨hb0,hbl⟩:=HOK.out k _ HG.out
    have hbc:=HOK.out.lt HG.out
    have hrates:c.rates.length=bl.length:=by rw[←HSN.out];exact HV4.out.trans HSN.out.symm
    have hkr:k<c.rates.length:=by omega
    obtain⟨r,hr0,hr0'⟩:=hr.at' k hkr
    have hrblk:(ptr (.slice ra rn rk) k).block<w.heap.size:=World.block_lt_of_cell? w _ hr0
    have hr1:=zba hb5 (zba hbx hr0)
    have hr2:=(hr0'.below hbx).below hb5
    have HROW:=zH (HVR.out k _ (List.getElem?_eq_getElem hkr))
    have HRQ:Hid (zaq c k=qs (c.rates[k]'hkr)):=zH (by simp[zaq,List.getD,List.getElem?_eq_getElem hkr])
    generalize c.rates[k]'hkr=row at *
    obtain⟨b,hbb⟩:∃b:Nat,bl[k]'hkl=(b:Int):=⟨(bl[k]'hkl).toNat,by omega⟩
    rw[hbb]at hbk hb0 hbl hbc
    have HG2:Hid (bl[k]? =some (b:Int)):=zH (by rw[HG.out,hbb])
    clear HG hbb hr0 hr0'
    have sra:zgc (.slice ra rn rk):=hr.sl
    have hrn:rn=c.rates.length:=hr.len
    have hkrn:(k:Int)<(rn:Nat):=by omega
    have hk0:(0:Int)≤(k:Int):=by omega
    have hrl:row.length=bl.length:=HROW.out.2.1
    have HROW2:Hid (zlr row row.length):=zH (by rw[hrl];exact HROW.out)
    have HRL:=zH hrl
    clear hrn hrates hrl
    have hbn:b<cnt bl:=by omega
    have hbi:(b:Int)<(cnt bl:Nat):=by omega
    have hes:b<es.length:=by omega
    have hfs:b<(fs.map Value.bool).length:=by rw[List.length_map];omega
    have sl3:zgc (.slice la c.lost.length lk):=zhc.sl hl
    have hkl2:k<c.lost.length:=by rw[HV3.out];exact hkl
    have hkln:(k:Int)<(c.lost.length:Nat):=by omega
    have hl0:=hl.at' k hkl2
    have hlblk:(ptr (.slice la c.lost.length lk) k).block<w.heap.size:=World.block_lt_of_cell? w _ hl0
    have hlc:=zba hb5 (zba hbx hl0)
    have HLG:Hid (c.lost[k]'hkl2=c.lost.getD k false):=zH (by simp[List.getD,List.getElem?_eq_getElem hkl2])
    generalize c.lost[k]'hkl2=lk0 at *
    have hc3:=h3.cell b hes
    have hf3:=h3.frozen b hes
    obtain⟨_,e0,e1,e2,_,_,_⟩:=id h8
    by_cases hnewb:b=cnt (bl.take k)
    ·have hE:es[b]'hes= .slice none 0 0:=by
      have:=HNEW.out b (by omega) hbn
      rw[List.getElem?_eq_getElem hes]at this
      injection this
     rw[hE]at hc3
     have HB:=zH hnewb
     clear hnewb
     have p1:(ptr v3 b).block≠B8:=by rw[zsa];exact n38
     have p2:(ptr v3 b).block≠w.heap.size:=by rw[zsa];omega
     have p3:(ptr v3 b).block≠(ptr (.slice ra rn rk) k).block:=by rw[zsa v3];omega
     have p4:(ptr v3 b).block≠(ptr (.slice la c.lost.length lk) k).block:=by rw[zsa v3];omega
     have t1:(ptr v4 b).block≠B8:=by rw[zsa];exact n48
     have t2:(ptr v4 b).block≠w.heap.size:=by rw[zsa];omega
     have t3:(ptr v4 b).block≠(ptr (.slice ra rn rk) k).block:=by rw[zsa v4];omega
     have t4:(ptr v4 b).block≠(ptr (.slice la c.lost.length lk) k).block:=by rw[zsa v4];omega
     have hne34:(ptr v3 b).block≠(base v4).block:=by rw[zsa];exact n34
     have hD:=zja (B:=wr.heap.size) wr
     obtain⟨_,q1,_,q2,_,_,_⟩:=h8.belowS hD
     obtain⟨_,q3,_,q4,_,_,_⟩:=hcr.belowS hD
     have q5:=zba hD hr1
     have q6:=zba hD hlc
     have hr2D:=hr2.below hD
     have hb2D:=(hb2.below hb5).below hD
     have H8D:=zH (h8.belowS hD)
     have HCD:=zH (hcr.belowS hD)
     have h3D:=h3.below hD
     have h4D:=h4.below hD
     go_wp2_with fail
     go_region_held3 (fun w'=>w'.cell? ⟨B8,0,none⟩=some v3∧w'.cell? ⟨B8,2,none⟩=some v4∧w'.cell? ⟨w.heap.size,0,none⟩=some (.slice ra rn rk)∧w'.cell? ⟨w.heap.size,2,none⟩=some (.slice la c.lost.length lk)∧w'.cell? (ptr (.slice ra rn rk) k)=some r∧w'.cell? (ptr (.slice la c.lost.length lk) k)=some (.bool lk0)) (first
      | with_reducible exact⟨q1,q2,q3,q4,q5,q6⟩
      | with_reducible exact zvp (by assumption) p1 p1 p2 p2 p3 p4 _
      | with_reducible exact zvp (by assumption) t1 t1 t2 t2 t3 t4 _) (first
      |(go_at_call 66;(with_reducible refine(zxx _ _ row bl _ _ hr2D hb2D HRL.out HOK.out rfl hcn HROW2.out).mono ?_);rintro e6 w6 ⟨v6,rfl,how6,hel6,hbel6⟩;obtain⟨g6,cs6,rfl,_⟩:=id how6
        obtain⟨_,q1,_,q2,_,_,_⟩:=H8D.out.belowS hbel6
        obtain⟨_,q3,_,q4,_,_,_⟩:=HCD.out.belowS hbel6
        have q5:=zba hbel6 q5
        have q6:=zba hbel6 q6
        have h36:=h3D.below hbel6
        have hc3:=h36.cell b hes
        rw[hE]at hc3
        have hf3:=h36.frozen b hes
        have h46:=(h4D.below hbel6).other (ptr v3 b) (.slice (some ⟨g6,0,none⟩) (cnt bl) (cnt bl)) hne34
        have hc4:=h46.cell b hfs
        have hf4:=h46.frozen b hfs))
     have hg6:wr.heap.size≤g6∧g6<w6.heap.size:=how6.block
     have h8W:=((H8D.out.belowS hbel6).other (ptr v3 b) (.slice (some ⟨g6,0,none⟩) (cnt bl) (cnt bl)) p1).other (ptr v4 b) (.bool lk0) t1
     have h3W:=(h36.set b hes (.slice (some ⟨g6,0,none⟩) (cnt bl) (cnt bl))).1.other (ptr v4 b) (.bool lk0) (by rw[zsa];exact n34.symm)
     have hq3:=h3W.cell b (by rw[List.length_set];exact hes)
     rw[List.getElem_set_self]at hq3
     have howW:=(how6.over (p:=ptr v3 b) (by rw[zsa];show _≠g6;omega) (.slice (some ⟨g6,0,none⟩) (cnt bl) (cnt bl))).over (p:=ptr v4 b) (by rw[zsa];show _≠g6;omega) (.bool lk0)
     have hbe6:=zaa hD hbel6
     have hSW:=((HS.out.below hbe6).over (p:=ptr v3 b) (u:= .slice (some ⟨g6,0,none⟩) (cnt bl) (cnt bl)) (by rw[zsa];exact n35) hc3 (fun z=>by simp)).over (p:=ptr v4 b) (u:= .bool lk0) (by rw[zsa];exact n45) hc4 (fun z=>by simp)
     have HSW:=zH hSW
     have HOWW:=zH howW
     have H8W:=zH h8W
     have HFR:=zH (fun(w7:World) (x9 y9 z9:Value) h56 hz=>HI2.out.fresh hbe6 HOK.out HG2.out HB.out hne34 k3 k4 (show zqb w6 _ wr.heap.size _ _ from how6) hws rfl hel6 HRQ.out lk0 HLG.out _ rfl (w6:=w7) h56 (x9:=x9) (y9:=y9) (z9:=z9) hz)
     clear q1 q2 q3 q4 q5 q6 hr2D hb2D h3D h4D h36 h46 hc3 hf3 hc4 hf4 h3W hSW howW e0 e1 e2 hbk hr1 hr2 hlc
     generalize hW1:(w6.setCell (ptr v3 b) (.slice (some ⟨g6,0,none⟩) (cnt bl) (cnt bl))).setCell (ptr v4 b) (.bool lk0)=W1 at *
     have HW1:=zH hW1
     clear hW1
     have hD1:=zja (B:=W1.heap.size) W1
     obtain⟨_,q1,_,_,_,_,_⟩:=h8W.belowS hD1
     have q2:=zba hD1 hq3
     have HOWD:=zH (HOWW.out.below hD1)
     have sv6:=HOWW.out.sl
     clear hq3 h8W
     go_wp2_with fail
     go_region_held3 (fun w'=>w'.cell? ⟨B8,0,none⟩=some v3∧w'.cell? (ptr v3 b)=some (.slice (some ⟨g6,0,none⟩) (cnt bl) (cnt bl))) (first
      | with_reducible exact⟨q1,q2⟩
      | with_reducible exact keep2 (by assumption) (show g6≠B8 by omega) (by rw[zsa];show g6≠_;omega) _ _ _ _ _ _) (first
      |(go_at_call 67;(with_reducible refine(zwy _).mono ?_);rintro e7 w7 ⟨v7,rfl,hv7,hbel7⟩
        obtain⟨t9,x9,y9,rfl,⟨a91,l91,k91,rfl,_⟩,⟨a92,l92,k92,rfl,_⟩⟩:=hv7.isF
        have q1:=zba hbel7 q1
        have q2:=zba hbel7 q2
        have ho7:=HOWD.out.below hbel7
        obtain⟨d0,d0',_⟩:=ho7.cell (b*3) (by omega)
        obtain⟨d1,d1',_⟩:=ho7.cell (b*3+1) (by omega)
        obtain⟨d2,d2',_⟩:=ho7.cell (b*3+2) (by omega)
        have f0:=ho7.frozen (b*3)
        have f1:=ho7.frozen (b*3+1)
        have f2:=ho7.frozen (b*3+2)
        have n01:=ho7.inj (show b*3≠b*3+1 by omega)
        have n02:=ho7.inj (show b*3≠b*3+2 by omega)
        have n12:=ho7.inj (show b*3+1≠b*3+2 by omega)))
     have HF:=zH (HFR.out w7 _ _ _ (zaa hD1 hbel7) hv7)
     have HBF:=zH ((hbr.trans (hbe6.mono (Nat.le_trans hbw.size hws))).trans (HF.out.2 (Nat.le_refl _)))
     have HWF:=zH (Nat.le_trans (Nat.le_trans hws hbe6.size) (HF.out.2 (Nat.le_refl _)).size)
     have H8F:=zH (((((H8W.out.belowS hD1).belowS hbel7).other (ptr (.slice (some ⟨g6,0,none⟩) (cnt bl) (cnt bl)) (b*3)) (.bool t9) (by rw[zsa];show g6≠_;omega)).other (ptr (.slice (some ⟨g6,0,none⟩) (cnt bl) (cnt bl)) (b*3+1)) (.slice a91 l91 k91) (by rw[zsa];show g6≠_;omega)).other (ptr (.slice (some ⟨g6,0,none⟩) (cnt bl) (cnt bl)) (b*3+2)) (.slice a92 l92 k92) (by rw[zsa];show g6≠_;omega))
     have HSF:=zH (zbb.over3 ho7 ((HSW.out.below hD1).below hbel7) (show g6≠g5 by omega) hbn (.bool t9) (.slice a91 l91 k91) (.slice a92 l92 k92) (fun z=>by simp) (fun z=>by simp))
     clear d0' d1' d2' f0 f1 f2 q1 q2
     go_wp2_with fail
     go_roundw
     case rel=>exact⟨k+1,_,_,hkl,by go_num,HF.out.1,HWF.out,HBF.out,H8F.out,HSF.out⟩
     case measure=>simp[intOf];omega
    ·have hbk2:b<cnt (bl.take k):=by omega
     obtain⟨ga,gn,gk,x1,x2,x3,x4⟩:=HSEEN.out b hbk2
     have hE:es[b]'hes= .slice (some ga) gn gk:=by
      rw[List.getElem?_eq_getElem hes]at x1
      injection x1
     rw[hE]at hc3
     have HSK:=zH (HI2.out.skip HG2.out hbk2)
     clear x1 x2 x3 x4 hnewb
     go_wp2_with fail
     go_roundw
     case rel=>exact⟨k+1,_,_,hkl,by go_num,HSK.out,hws,hbr,H8.out,HS.out⟩
     case measure=>simp[intOf];omega
   ·obtain rfl:k=bl.length:=by omega
    obtain⟨d1,d2⟩:=HI2.out.done
    have hq:zlq wr (.agg #[v3, .slice (some ⟨g5,0,none⟩) (cnt bl) (cnt bl),v4]) (quo c bl):=⟨_,_,_,rfl,d1,HS.out,d2⟩
    have HQC:=zH hq
    obtain⟨a3,n3,c3,rfl,_⟩:=id s3
    obtain⟨a4,n4,c4,rfl,_⟩:=id s4
    obtain⟨_,e0,e1,e2,_,_,_⟩:=id h8
    have hbW:=zaa hbx hb5
    clear d1 d2 hq
    by_cases hvq:zzp (quo c bl).raw
    ·have HVQ:=zH hvq
     clear hvq
     go_wp2_with (go_at_call 68;(with_reducible refine(zar _ (quo c bl).raw _ HQC.out.raw).mono ?_);rintro e9 w9 ⟨⟨b9,rfl,hv9⟩,hbel9⟩;obtain rfl:b9=true:=hv9.2 HVQ.out;clear hv9
                  obtain⟨_,e0,e1,e2,_,_,_⟩:=h8.belowS hbel9
                  have hR9:=HRr.out.belowS hbel9
                  have HR9:=zH hR9
                  obtain⟨_,g0,g1,g2,g3,g4,g5'⟩:=hR9)
     refine zoa rfl rfl Tryz.aggChQ Tryz.sizeChQ (HR9.out.set _ _ _) rfl ?_
     refine⟨_,0,rfl,zga (zaa hbW hbel9) (Nat.le_succ _) _ _ _,fun h=>absurd HCK.out h,fun _ _=>⟨rfl,?_⟩,fun _ h=>absurd HVQ.out h⟩
     exact quo_out (HI2.out.below hbel9) hpos (HS.out.below hbel9) HR9.out (by omega) (by omega) (by omega) (by omega) _ _ _
    ·have HVQ:=zH hvq
     clear hvq
     go_wp2_with (go_at_call 68;(with_reducible refine(zar _ (quo c bl).raw _ HQC.out.raw).mono ?_);rintro e9 w9 ⟨⟨b9,rfl,hv9⟩,hbel9⟩;obtain rfl:b9=false:=Bool.eq_false_iff.2 (fun h=>HVQ.out (hv9.1 h));clear hv9
                  have hR9:=HRr.out.belowS hbel9
                  have HR9:=zH hR9
                  obtain⟨_,g0,g1,g2,g3,g4,g5'⟩:=hR9)
     refine zoa rfl rfl Tryz.aggChQ Tryz.sizeChQ (HR9.out.set _ _ _) rfl ?_
     exact⟨_,2,rfl,zga (zaa hbW hbel9) (Nat.le_succ _) _ _ _,fun h=>absurd HCK.out h,fun _ h=>absurd h HVQ.out,fun _ _=>⟨rfl,rfl⟩⟩
set_option maxRecDepth 100000 in
theorem quo_bad (va vb:Value) (c:RC) (bl:List Int) (w:World) (ha:zdq w va c) (hb:zgv w vb bl) (hck:¬zex c bl):
 Calls Tryz.prog 16 #[va,vb] w (RQuo w c bl):=by
 obtain⟨rv,sv,lv,rfl,hr,hs,hl⟩:=id ha
 obtain⟨ra,rn,rk,rfl,r1,r2,r3⟩:=id hr.sl
 obtain⟨sa,sn,sk,rfl,s1,s2,s3⟩:=id hs.sl
 obtain⟨la,ln,lk,rfl,l1,l2,l3⟩:=id (zhc.sl hl)
 have hbx:=zca w (.cells #[.slice ra rn rk, .slice sa sn sk, .slice la ln lk] 28)
 have hC:=C3.new w 28 (.slice ra rn rk) (.slice sa sn sk) (.slice la ln lk)
 have ha2:=ha.below hbx
 have hb2:=hb.below hbx
 have HCK:=zH hck
 have HA:=zH ha2
 have HC:=zH hC
 obtain⟨_,c0,c1,c2,_,_,_⟩:=id hC
 clear hC ha2 ha hck hr hs hl
 go_enter Tryz.func16,Tryz.ntmps16
 have hcx:=zca (w.alloc (.cells #[.slice ra rn rk, .slice sa sn sk, .slice la ln lk] 28)) (.cells #[.slice none 0 0, .slice none 0 0, .slice none 0 0] 28)
 have hR0:(w.alloc (.cells #[.slice ra rn rk, .slice sa sn sk, .slice la ln lk] 28)).heap.size=w.heap.size+1:=by simp
 go_wp2_with (go_at_call 64;(with_reducible refine(zay _ _ c bl _ (HA.out.below hcx) (hb2.below hcx)).mono ?_);rintro e1 w1 ⟨⟨b1,rfl,hb1⟩,hbel1⟩;obtain rfl:b1=false:=Bool.eq_false_iff.2 (fun h=>HCK.out (hb1.1 h));clear hb1
              have hR:=(C3.new (w.alloc (.cells #[.slice ra rn rk, .slice sa sn sk, .slice la ln lk] 28)) 28 (.slice none 0 0) (.slice none 0 0) (.slice none 0 0)).belowS hbel1
              rw[hR0]at hR
              have HR:=zH hR
              obtain⟨_,g0,g1,g2,g3,g4,g5⟩:=hR)
 refine zoa rfl rfl Tryz.aggChQ Tryz.sizeChQ (HR.out.set _ _ _) rfl ?_
 exact⟨_,1,rfl,zga (zaa hbx (zaa hcx hbel1)) (Nat.le_succ _) _ _ _,fun _=>⟨rfl,rfl⟩,fun h=>absurd h HCK.out,fun h=>absurd h HCK.out⟩
theorem quo_any (va vb:Value) (c:RC) (bl:List Int) (w:World) (ha:zdq w va c) (hb:zgv w vb bl):Calls Tryz.prog 16 #[va,vb] w (RQuo w c bl):=by
 by_cases h:zex c bl
 ·exact quo_main va vb c bl w ha hb h
 ·exact quo_bad va vb c bl w ha hb h
end Go.Proofs.YtlpdkbmmbdfoiaaGreat
