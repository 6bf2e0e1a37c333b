/-
  package phase: rate, of any fraction.
-/
import Derived.Test.YtlpdkbmmbdfoiaaGTl1
import Derived.Test.YtlpdkbmmbdfoiaaGMk1
import Derived.Test.YtlpdkbmmbdfoiaaGOrd
import Derived.Test.YtlpdkbmmbdfoiaaGRa3
import Derived.Test.YtlpdkbmmbdfoiaaGTa6
set_option linter.unusedVariables false
set_option linter.unusedSimpArgs false
namespace Go.Proofs.Ytlpdkbmmbdfoiaa
open Go.RowKit
theorem cell_lt {w:World} {p:Addr} {x:Value} (h:w.cell? p=some x):p.block<w.heap.size:=by
 unfold World.cell? at h
 split at h
 ·rename_i cur e fz hh
  exact(Array.getElem?_eq_some_iff.1 hh).1
 ·cases h
theorem TMv.set {bt:Nat} {w0 w:World} (h:TMv bt w0 w) {p:Addr} (hp:w0.heap.size≤p.block) (u:Value):TMv bt w0 (w.setCell p u):=by
 refine⟨by simpa [World.setCell]using h.size,fun g h1 h2=> ?_,fun q x hq hx=> ?_,fun q hq=> ?_,fun B h1 h2=>(h.below B h1 h2).setCell (by omega) u⟩
 ·rw[Below.heap_setCell _ _ _ _ (by omega)];exact h.row g h1 h2
 ·have hl:=cell_lt hq
  rw[World.cell?_setCell_other _ _ _ _ (by intro e;rw[e]at hp;omega)]
  exact h.cell q x hq hx
 ·rw[World.frozen?_setCell];exact h.frozen q hq
theorem znb.set {w:World} {b a:Nat} {l:List Nat} (h:znb w b l a) {p:Addr} {x:Value} (hp:p.block≠b) (hc:w.cell? p=some x) (hx:∀z,x≠ .int .u8 z) (u:Value):znb (w.setCell p u) b l a:=(h.b.set hp hc hx u).1
theorem znb.set3 {w:World} {b a c:Nat} {l:List Nat} {t:Bool} {a1 a2:Option Addr} {l1 k1 l2 k2:Nat} (h:znb w b l a) (hC:C3 w c (.bool t) (.slice a1 l1 k1) (.slice a2 l2 k2)) (hp:c≠b) (u0 u1 u2:Value):
 znb (((w.setCell ⟨c,0,none⟩ u0).setCell ⟨c,1,none⟩ u1).setCell ⟨c,2,none⟩ u2) b l a:=by
 obtain⟨_,c0,c1,c2,_,_,_⟩:=hC
 have h1:=h.set (p:=⟨c,0,none⟩) hp c0 (fun z=>by simp) u0
 have h2:=h1.set (p:=⟨c,1,none⟩) hp (by rw[World.cell?_setCell_other _ _ _ _ (by simp)];exact c1) (fun z=>by simp) u1
 exact h2.set (p:=⟨c,2,none⟩) hp (by rw[World.cell?_setCell_other _ _ _ _ (by simp),World.cell?_setCell_other _ _ _ _ (by simp)];exact c2) (fun z=>by simp) u2
def tfQ (q:Rat):Prop:=∃x y:Nat,x<6∧y<8∧q=fq false (x+1) (y+1)
theorem t2make_zz (a b:Nat) (y z:Int) (w:World) (hy:y=(a:Int)) (hz:z=(b:Int)) (ha:a<4294967296) (hb:b<4294967296) (hb0:b≠0):
 Calls Try.prog 15 #[.int .i64 y, .int .i64 z] w (RF0 w (fq false a b)):=by subst hy;subst hz;exact zgf a b w ha hb hb0
theorem zpi (b:Nat) (l:List Nat) (a:Nat) (z:Int) (n:Nat) (w:World) (hz:z=(n:Int)) (h:znb w b l a) (hn:1≤n) (hn2:n≤65536):
 Calls Try.prog 36 #[.pointer (some ⟨b,0,none⟩), .int .i64 z] w (fun e w'=>∃x a':Nat,e= .returned (.int .i64 (x:Nat))∧x<n∧znb w' b l a'∧TMv b w w'):=by
 subst hz
 refine(next_any b l a n w h hn hn2).mono ?_
 rintro e w' ⟨x,a',rfl,h1,h2,h3⟩
 exact⟨x,a',rfl,h1,h2,TMv.of_ticks h h3⟩
set_option maxRecDepth 100000 in
set_option maxHeartbeats 1600000 in
theorem tfrac_any (bt a:Nat) (l:List Nat) (w:World) (hT:znb w bt l a):
 Calls Try.prog 50 #[.pointer (some ⟨bt,0,none⟩)] w (fun e w'=>∃ (v:Value) (q:Rat) (a':Nat),e= .returned v∧zqa w' v q∧tfQ q∧znb w' bt l a'∧TMv bt w w'):=by
 have hba:=zca w (.cells #[.bool false, .slice none 0 0, .slice none 0 0] 32)
 have HT:=zH (C3.new w 32 (.bool false) (.slice none 0 0) (.slice none 0 0))
 have hT0:=hT.below hba
 have HM:=zH (TMv.of_below (bt:=bt) hba)
 have HLT:=zH hT.lt
 clear hba hT
 go_enter Try.func50,Try.ntmps50
 go_upto_region 1 with fail
 obtain⟨b2,hb2⟩:∃b,w.heap.size=b:=⟨_,rfl⟩
 have HB2:=zH hb2
 rw[hb2]at HT ⊢
 clear hb2
 generalize w.alloc (.cells #[.bool false, .slice none 0 0, .slice none 0 0] 32)=W1 at *
 go_wp2_with (first
  |(go_at_call 36;(with_reducible refine(zpi bt l _ 6 6 _ rfl hT0 (by decide) (by decide)).mono ?_);rintro e3 w3 ⟨x,a3,rfl,hx,hT3,hm3⟩)
  |(go_at_call 36;(with_reducible refine(zpi bt l _ 8 8 _ rfl hT3 (by decide) (by decide)).mono ?_);rintro e4 w4 ⟨y,a4,rfl,hy,hT4,hm4⟩)
  |(go_at_call 15;(with_reducible refine(t2make_zz (x+1) (y+1) _ _ _ (by omega) (by omega) (by omega) (by omega) (by omega)).mono ?_);rintro e5 w5 ⟨v5,rfl,hv5,hb5⟩
    obtain⟨t5,x5,y5,rfl,⟨a51,l51,k51,rfl,_⟩,⟨a52,l52,k52,rfl,_⟩⟩:=hv5.isF
    have hba:=zca w5 (.cells #[.bool t5, .slice a51 l51 k51, .slice a52 l52 k52] 32)
    have hbb:=zaa hb5 hba
    have hT5:=hT4.below hbb
    have HM5:=zH (((HM.out.trans hm3).trans hm4).trans (TMv.of_below hbb))
    have HC5:=zH ((((HT.out.tmv hm3 (fun z=>by simp) (fun z=>by simp) (fun z=>by simp)).tmv hm4 (fun z=>by simp) (fun z=>by simp) (fun z=>by simp))).belowS hbb)
    have HV5:=zH (hv5.below hba)
    obtain⟨-,d0,d1,d2,f0,f1,f2⟩:=HC5.out
    clear hv5 hb5 hba hbb))
 refine zab rfl rfl Try.aggF Try.sizeF (HC5.out.set _ _ _) rfl ?_
 have hne:b2≠bt:=by have h1:=HLT.out;have h2:=HB2.out;omega
 have hle:w.heap.size≤b2:=by have h2:=HB2.out;omega
 exact⟨_,_,a4,rfl,HV5.out.set3 HC5.out (fun z=>by simp) (fun z=>by simp) _ _ _,⟨x,y,hx,hy,rfl⟩,hT5.set3 HC5.out hne _ _ _,((HM5.out.set hle _).set hle _).set hle _⟩
section
variable {P:Program} {md:Region.Mode} {ops:Array Oper} {Q:Exit→Act→World→Prop} {S:World→Prop} {z:Nat}
def wpL (P:Program) (md:Region.Mode) (ops:Array Oper) (Q:Exit→Act→World→Prop) (S:World→Prop) (z:Nat):Nat→Array Bool→Act→World→Prop
 | 0,l,a,w=>Region.ready md ops l= []∧Q .normal a w
 | k+1,l,a,w=>(Region.ready md ops l= []→Q .normal a w)∧∀i∈Region.ready md ops l,wpOp P ops Q i (fun b v=>((l.setIfInBounds i true).getD z false=false→S v)∧wpL P md ops Q S z k (l.setIfInBounds i true) b v) a w
theorem wpL.any :∀ (k:Nat) (l:Array Bool) (a:Act) (w:World),wpL P md ops Q S z k l a w→wpAny P md ops Q k l a w
 | 0,_,_,_,h=>h
 | k+1,_,_,_,h=>⟨h.1,fun i hi=>wpOp_mono (fun b v g=>wpL.any k _ b v g.2) (h.2 i hi)⟩
theorem wpL.first {i:Nat} {o:Oper} {v:Value} (hi:ops[i]? =some o) (hs:Region.noSelect ops=true) (hw:waitT md ops i 14 z=true) (hQ:∀c a w,Q (.panic c) (a.put o.dst v) w→Q (.panic c) a w):
 ∀ (k:Nat) (l:Array Bool) (a:Act) (w:World),Shut md ops l→l.getD z false=false→(∀j p,ops[j]? =some p→j≠i→l.getD j true=false→(∀e∈p.after,Region.binds md e=true→e.on≠i)→o.apart ops p=true)→
  i∈Region.ready md ops l→YieldsIf P ops S o v a→S w→wpL P md ops Q S z k (l.setIfInBounds i true) (a.put o.dst v) w→wpL P md ops Q S z (k+1) l a w
 | 0,l,a,w,_,_,_,hr,hy,hS,H=>by
   refine⟨(fun h=>by rw[h]at hr;cases hr),fun j hj=> ?_⟩
   by_cases e:j=i
   ·subst e;exact hy.wpOp hi hS ⟨fun _=>hS,H⟩
   ·have h1:=ready_mono hj e
    rw[H.1]at h1
    cases h1
 | k+1,l,a,w,hsh,hlz,hfr,hr,hy,hS,H=>by
   refine⟨(fun h=>by rw[h]at hr;cases hr),fun j hj=> ?_⟩
   by_cases e:j=i
   ·subst e;exact hy.wpOp hi hS ⟨fun _=>hS,H⟩
   ·obtain⟨hun,p,hp,_⟩:=mem_ready.1 hj
    have hno:=zeh hj hr hp
    have hjz:j≠z:=by
     intro hjz
     subst hjz
     obtain⟨_,p',hp',hall⟩:=mem_ready.1 hj
     exact zqg (zng hsh 14 j p' hw hp' hall) (mem_ready.1 hr).1
    have hiz:i≠z:=by
     intro hiz
     subst hiz
     obtain⟨_,p',hp',hall⟩:=mem_ready.1 hr
     exact zqg (zng hsh 14 i p' hw hp' hall) (mem_ready.1 hr).1
    have hz1:(l.setIfInBounds j true).getD z false=false:=by rw[getD_set_ne false hjz];exact hlz
    have hz2:((l.setIfInBounds i true).setIfInBounds j true).getD z false=false:=by rw[getD_set_ne false hjz,getD_set_ne false hiz];exact hlz
    have hsel:=fun(j:Nat) (o:Oper) cs b (h:ops[j]? =some o)=>Region.noSelect_spec hs j o cs b h
    have h2:=wpOp_putIf hp (hfr j p hp e hun hno) (fun cs b=>hsel i o cs b hi) (fun cs b=>hsel j p cs b hp) hQ hy (H.2 j (ready_mono hj e))
    refine wpOp_mono (fun b u g=>⟨fun _=>g.2.1 hz2,wpL.first hi hs hw hQ k (l.setIfInBounds j true) b u (hsh.set hj) hz1 ?_ (ready_mono hr (Ne.symm e)) g.1 (g.2.1 hz2) ?_⟩) h2
    ·intro x q hq hxi hxl hxw
     refine hfr x q hq hxi ?_ hxw
     by_cases hjx:j=x
     ·subst hjx;exact hun
     ·rwa[getD_set_ne true hjx]at hxl
    ·rw[Array.setIfInBounds_comm _ _ e]
     exact g.2.2
theorem wpL.firstU {i:Nat} {o:Oper} {v:Value} (hi:ops[i]? =some o) (hs:Region.noSelect ops=true) (hiz:i≠z) (hQ:∀c a w,Q (.panic c) (a.put o.dst v) w→Q (.panic c) a w):
 ∀ (k:Nat) (l:Array Bool) (a:Act) (w:World),Shut md ops l→(∀j p,ops[j]? =some p→j≠i→l.getD j true=false→(∀e∈p.after,Region.binds md e=true→e.on≠i)→o.apart ops p=true)→
  i∈Region.ready md ops l→YieldsIf P ops (fun _=>True) o v a→(l.getD z false=false→S w)→wpL P md ops Q S z k (l.setIfInBounds i true) (a.put o.dst v) w→wpL P md ops Q S z (k+1) l a w
 | 0,l,a,w,_,_,hr,hy,hS,H=>by
   refine⟨(fun h=>by rw[h]at hr;cases hr),fun j hj=> ?_⟩
   by_cases e:j=i
   ·subst e;exact hy.wpOp hi trivial ⟨fun h=>hS (by rwa[getD_set_ne false hiz]at h),H⟩
   ·have h1:=ready_mono hj e
    rw[H.1]at h1
    cases h1
 | k+1,l,a,w,hsh,hfr,hr,hy,hS,H=>by
   refine⟨(fun h=>by rw[h]at hr;cases hr),fun j hj=> ?_⟩
   by_cases e:j=i
   ·subst e;exact hy.wpOp hi trivial ⟨fun h=>hS (by rwa[getD_set_ne false hiz]at h),H⟩
   ·obtain⟨hun,p,hp,_⟩:=mem_ready.1 hj
    have hno:=zeh hj hr hp
    have hsel:=fun(j:Nat) (o:Oper) cs b (h:ops[j]? =some o)=>Region.noSelect_spec hs j o cs b h
    have h2:=wpOp_putIf hp (hfr j p hp e hun hno) (fun cs b=>hsel i o cs b hi) (fun cs b=>hsel j p cs b hp) hQ hy (H.2 j (ready_mono hj e))
    have hzz:(l.setIfInBounds j true).getD z false=false→((l.setIfInBounds i true).setIfInBounds j true).getD z false=false:=fun h=>by
     rw[←Array.setIfInBounds_comm _ _ e,getD_set_ne false hiz];exact h
    refine wpOp_mono (fun b u g=>⟨fun h=>g.2.1 (hzz h),wpL.firstU hi hs hiz hQ k (l.setIfInBounds j true) b u (hsh.set hj) ?_ (ready_mono hr (Ne.symm e)) g.1 (fun h=>g.2.1 (hzz h)) ?_⟩) h2
    ·intro x q hq hxi hxl hxw
     refine hfr x q hq hxi ?_ hxw
     by_cases hjx:j=x
     ·subst hjx;exact hun
     ·rwa[getD_set_ne true hjx]at hxl
    ·rw[Array.setIfInBounds_comm _ _ e]
     exact g.2.2
theorem wpL.take (i:Nat) {fuel:Nat} {l:Array Bool} {a:Act} {w:World} (hs:Region.noSelect ops=true) (hw:waitT md ops i 14 z=true) (hz:l.getD z false=false) (hc:shutB md ops l=true) (hf:Region.free md ops l i=true) (hr:(Region.ready md ops l).contains i=true) (hS:S w) (hi:(ops[i]?).isSome=true)
 (h:∀o,ops[i]? =some o→∃v,(∀c a w,Q (.panic c) (a.put o.dst v) w→Q (.panic c) a w)∧YieldsIf P ops S o v a∧wpL P md ops Q S z fuel (l.setIfInBounds i true) (a.put o.dst v) w):wpL P md ops Q S z (fuel+1) l a w:=by
 obtain⟨o,ho⟩:=Option.isSome_iff_exists.1 hi
 obtain⟨v,h1,h2,h3⟩:=h o ho
 exact wpL.first ho hs hw h1 fuel l a w (zri hc) hz (Region.free_spec ho hf) (by simpa using hr) h2 hS h3
theorem wpL.takeU (i:Nat) {fuel:Nat} {l:Array Bool} {a:Act} {w:World} (hs:Region.noSelect ops=true) (hiz:Nat.beq i z=false) (hc:shutB md ops l=true) (hf:Region.free md ops l i=true) (hr:(Region.ready md ops l).contains i=true) (hS:S w) (hi:(ops[i]?).isSome=true)
 (h:∀o,ops[i]? =some o→∃v,(∀c a w,Q (.panic c) (a.put o.dst v) w→Q (.panic c) a w)∧YieldsIf P ops (fun _=>True) o v a∧wpL P md ops Q S z fuel (l.setIfInBounds i true) (a.put o.dst v) w):wpL P md ops Q S z (fuel+1) l a w:=by
 obtain⟨o,ho⟩:=Option.isSome_iff_exists.1 hi
 obtain⟨v,h1,h2,h3⟩:=h o ho
 exact wpL.firstU ho hs (fun e=>by subst e;rw[Nat.beq_refl]at hiz;cases hiz) h1 fuel l a w (zri hc) (Region.free_spec ho hf) (by simpa using hr) h2 (fun _=>hS) h3
theorem wpL.one (k:Nat) {fuel:Nat} {l:Array Bool} {a:Act} {w:World} (hr:Region.ready md ops l= [k]) (hi:(ops[k]?).isSome=true)
 (h:∀o,ops[k]? =some o→∀K:Act→World→Prop,Hid (∀b v,((l.setIfInBounds k true).getD z false=false→S v)→wpL P md ops Q S z fuel (l.setIfInBounds k true) b v→K b v)→if Region.wanted o (yielded ops a.tmps)=true then o.wp P a w K Q else K (a.put o.dst undef) w):wpL P md ops Q S z (fuel+1) l a w:=by
 obtain⟨o,ho⟩:=Option.isSome_iff_exists.1 hi
 refine⟨(fun h0=>by rw[hr]at h0;cases h0),fun j hj=> ?_⟩
 rw[hr]at hj
 obtain rfl:j=k:=by simpa using hj
 have h1:=h o ho _ (zH fun b v h2 h3=>(⟨h2,h3⟩:((l.setIfInBounds j true).getD z false=false→S v)∧_))
 unfold wpOp
 simp only[ho]
 by_cases hw:Region.wanted o (yielded ops a.tmps)=true
 ·rw[if_pos hw]at h1 ⊢
  exact Or.inl h1
 ·rw[if_neg hw]at h1 ⊢
  exact h1
theorem wpL.done {l:Array Bool} {a:Act} {w:World} (hr:Region.ready md ops l= []) (h:Q .normal a w):∀fuel,wpL P md ops Q S z fuel l a w
 | 0=>⟨hr,h⟩
 | _+1=>⟨fun _=>h,by rw[hr];simp⟩
theorem wpL.start {id:Nat} {a:Act} {w:World} (z:Nat) (S:World→Prop) (hm:P.follows .mixedOrders=true) (hS:S w.drew) (h:S w.drew→wpL P .any ops Q S z ops.size (Array.replicate ops.size false) a w.drew):(Code.region id ops true).wp P Q a w:=
 wp_region_any hm (wpL.any _ _ _ _ (h hS))
end
section
variable {P:Program} {md:Region.Mode} {ops:Array Oper} {Q:Exit→Act→World→Prop} {S:World→Prop} {z:Nat} {fuel:Nat} {l l':Array Bool} {a a':Act} {w:World} {o:Oper} {v:Value}
theorem wpL.t (i:Nat) (h:wpL P md ops Q S z fuel l' a' w) (ho:ops[i]? =some o:=by(simp only[List.getElem?_toArray,List.getElem?_cons_succ,List.getElem?_cons_zero];rfl)) (hs:Region.noSelect ops=true:=by kernel_rfl) (hw:waitT md ops i 14 z=true:=by kernel_rfl) (hz:l.getD z false=false:=by kernel_rfl) (hc:shutB md ops l=true:=by kernel_rfl) (hf:Region.free md ops l i=true:=by kernel_rfl) (hr:(Region.ready md ops l).contains i=true:=by kernel_rfl) (hS:S w:=by assumption)
 (hQ:∀c a w,Q (.panic c) (a.put o.dst v) w→Q (.panic c) a w:=by exact fun _ _ _ h=>h) (hy:YieldsIf P ops S o v a:=by first | exact Or.inr ⟨by rfl,rfl⟩ | (refine Or.inl ⟨by rfl,?_⟩;intro w hSw;(try dsimp only at hSw);go_simp;try with_reducible rfl))
 (hl:l.setIfInBounds i true=l':=by((try simp only[List.setIfInBounds_toArray,List.set_cons_zero,List.set_cons_succ]);rfl)) (ha:a.put o.dst v=a':=by(simp only[Act.put,List.setIfInBounds_toArray,List.set_cons_zero,List.set_cons_succ];rfl)):wpL P md ops Q S z (fuel+1) l a w:=by
 subst hl ha
 exact wpL.first ho hs hw hQ fuel l a w (zri hc) hz (Region.free_spec ho hf) (by simpa using hr) hy hS h
theorem wpL.u (i:Nat) (h:wpL P md ops Q S z fuel l' a' w) (ho:ops[i]? =some o:=by(simp only[List.getElem?_toArray,List.getElem?_cons_succ,List.getElem?_cons_zero];rfl)) (hs:Region.noSelect ops=true:=by kernel_rfl) (hiz:Nat.beq i z=false:=by kernel_rfl) (hc:shutB md ops l=true:=by kernel_rfl) (hf:Region.free md ops l i=true:=by kernel_rfl) (hr:(Region.ready md ops l).contains i=true:=by kernel_rfl) (hS:S w:=by assumption)
 (hQ:∀c a w,Q (.panic c) (a.put o.dst v) w→Q (.panic c) a w:=by exact fun _ _ _ h=>h) (hy:YieldsIf P ops (fun _=>True) o v a:=by first | exact Or.inr ⟨by rfl,rfl⟩ | (refine Or.inl ⟨by rfl,?_⟩;intro w hSw;(try dsimp only at hSw);go_simp;try with_reducible rfl))
 (hl:l.setIfInBounds i true=l':=by((try simp only[List.setIfInBounds_toArray,List.set_cons_zero,List.set_cons_succ]);rfl)) (ha:a.put o.dst v=a':=by(simp only[Act.put,List.setIfInBounds_toArray,List.set_cons_zero,List.set_cons_succ];rfl)):wpL P md ops Q S z (fuel+1) l a w:=by
 subst hl ha
 exact wpL.firstU ho hs (fun e=>by subst e;rw[Nat.beq_refl]at hiz;cases hiz) hQ fuel l a w (zri hc) (Region.free_spec ho hf) (by simpa using hr) hy (fun _=>hS) h
theorem wpL.oo (k:Nat) (h:∀K:Act→World→Prop,Hid (∀b v,((l.setIfInBounds k true).getD z false=false→S v)→wpL P md ops Q S z fuel (l.setIfInBounds k true) b v→K b v)→if Region.wanted o (yielded ops a.tmps)=true then o.wp P a w K Q else K (a.put o.dst undef) w)
 (ho:ops[k]? =some o:=by(simp only[List.getElem?_toArray,List.getElem?_cons_succ,List.getElem?_cons_zero];rfl)) (hr:Region.ready md ops l= [k]:=by kernel_rfl):wpL P md ops Q S z (fuel+1) l a w:=
 wpL.one k hr (by rw[ho];rfl) fun o' h'=>by rw[ho]at h';injection h' with h';subst h';exact h
end
def zeb (n:Nat):List Rat:=List.replicate n 0
theorem zwa (n:Nat):(zeb n).length=n:=by simp[zeb]
theorem zij (b n:Nat) (w:World) (hc:w.cell? ⟨b,0,none⟩=some (.int .i64 (n:Nat))) (hn1:1≤n) (hn:n≤4):
 Calls Try.prog 124 #[.pointer (some ⟨b,0,none⟩)] w (fun e w'=>∃v,e= .returned v∧zya w' 32 w.heap.size v (zeb n)∧Below w.heap.size w w'):=
 (blank1_any b n w hc hn1 hn).mono fun e w' ⟨v,h1,h2,h3,h4⟩=>⟨v,h1,h2.frRow (zwa n) (fun j hj=>by
  have e:(zeb n)[j]=0:=by simp[zeb]
  rw[e]
  exact h3 j (by rw[zwa]at hj;exact hj)),h4⟩
theorem zpn {P:Program} {w:World} {b:Nat} {v0 v1 v2 v3:Value} {ty:TypeId} (hagg:∀w,(isAgg ty).run P w= .ok true w) (hs:∀w,(sizeOf ty).run P w= .ok 4 w) (h:C4 w b v0 v1 v2 v3):
 (loadVar ty ⟨b,0,none⟩).run P w= .ok (.agg #[v0,v1,v2,v3]) w:=by
 obtain⟨lt,c0,c1,c2,c3,f0,f1,f2,f3⟩:=h
 simp only[loadVar,Sem.run_bind,hagg,hs,Result.andThen_ok]
 go_simp
theorem zvl {P:Program} {fn:Func} {R:Ending→World→Prop} {a:Act} {w:World} {p:Tmp} {ty:TypeId} {b:Nat} {v0 v1 v2 v3:Value} (h:fn.results=#[.cell p ty])
 (hp:a.tmps.getD p undef= .pointer (some ⟨b,0,none⟩)) (hagg:∀w,(isAgg ty).run P w= .ok true w) (hs:∀w,(sizeOf ty).run P w= .ok 4 w) (hc:C4 w b v0 v1 v2 v3) (hd:a.defers= [])
 (hR:R (.returned (.agg #[v0,v1,v2,v3])) w):bodyPost P fn R .ret a w:=by
 refine bodyPost_ret ?_ hd hR
 rw[zmj h,hp]
 simp only[asAddr,Sem.run_pure,Result.andThen_ok,zpn hagg hs hc]
theorem zzd {P:Program} {fn:Func} {R:Ending→World→Prop} {a:Act} {w:World} {p u:Tmp} {ty:TypeId} {b:Nat} {v0 v1 v2 v3:Value} (h:fn.results=#[.cell p ty, .tmp u])
 (hp:a.tmps.getD p undef= .pointer (some ⟨b,0,none⟩)) (hagg:∀w,(isAgg ty).run P w= .ok true w) (hs:∀w,(sizeOf ty).run P w= .ok 4 w) (hc:C4 w b v0 v1 v2 v3) (hd:a.defers= [])
 (hR:R (.returned (.tuple #[.agg #[v0,v1,v2,v3],a.tmps.getD u undef])) w):bodyPost P fn R .ret a w:=by
 refine bodyPost_ret ?_ hd hR
 rw[results_cell_tmp h,hp]
 simp only[asAddr,Sem.run_pure,Result.andThen_ok,zpn hagg hs hc]
theorem Try.aggL (w:World):(isAgg 26).run Try.prog w= .ok true w:=by go_simp
theorem Try.sizeL (w:World):(sizeOf 26).run Try.prog w= .ok 4 w:=by go_simp
theorem step_app_row {P:Program} (t e:TypeId) (i:TypeInfo) (ht:P.underlying t=some (.slice e)) (hi:P.info? e=some i) (hz:i.zero=some (.slice none 0 0)) (hsize:i.size=1) (hby:i.bytes=24)
 {ops:Array Oper} {o:Oper} {a:Act} {w:World} {K:Act→World→Prop} {Q:Exit→Act→World→Prop} {E:Prop} (hgd:o.guard=none) (s x:Operand)
 (ho:o.op= .call { callee:= .builtin .append,args:=#[s,x],argTypes:=#[t,t] }) (B:Nat) (v:Value) (xs:List Value) (hs:a.eval s=v) (hown:zlc w e B 1 v xs.length xs) (y:Value) (hy:zgc y) (g:Nat) (hxe:a.eval x= .slice (some ⟨g,0,none⟩) 1 1)
 (hc:w.cell? ⟨g,0,none⟩=some y) (hn:xs.length≤1000) (hbase:B≤w.heap.size)
 (h:∀v' w',zlc w' e B 1 v' (xs++ [y]).length (xs++ [y])→w.grownBy w' v.ownBlock→zlb w v→zgc v'→K (a.put o.dst v') w'):
 if Region.wanted o (yielded ops a.tmps)=true then Oper.wp P o a w K Q else E:=by
 rw[if_pos (by simp[Region.wanted,hgd])]
 obtain⟨y1,y2,y3,rfl,_⟩:=hy
 obtain⟨v',w',hr,k2,k3,k4,k5⟩:=zwd (P:=P) w B t o.type e i _ 1 24 ht hi hz hsize hby rfl (by decide) v xs.length xs hown.own ⟨g,0,none⟩ 1 1 [Value.slice y1 y2 y3] rfl
  (fun j u hu=>by
   have hj:=(List.getElem?_eq_some_iff.1 hu).1
   have :j=0:=by simp at hj;omega
   subst this
   simp at hu;subst hu;rw[Addr.add_lit,Nat.zero_add];exact hc) (fun u hu=>by simp at hu;subst hu;rfl) (by simp[maxLen];omega) (by omega) hbase hown.nl (fun u hu z=>by simp at hu;subst hu;simp) (fun c hc z=>by
   have hc2:c∈ [Value.slice none 0 0]:=hc
   simp at hc2;subst hc2;simp)
 unfold Oper.wp execOp
 simp only[ho,resolve,invoke,builtin,Sem.run_bind,Sem.run_pure,Result.andThen_ok,List.map_toArray,List.map_cons,List.map_nil,hs,hxe,hr]
 have hw:zlc w' e B 1 v' (xs++ [Value.slice y1 y2 y3]).length (xs++ [Value.slice y1 y2 y3]):=by
  rw[List.length_append]
  exact⟨k2,k5⟩
 exact h v' w' hw k3 hown.nl hw.sl
theorem zeros_pos {vr:Value} {rs:List Value} {n i:Nat} (hn:1≤n) (hv:rs= []→vr.ownBlock=none):zve.Pos vr rs (zeb n) (zeb n) (List.replicate i (zeb n)):=
 ⟨by rw[zwa];exact hn,by rw[zwa];exact hn,fun j h=>by rw[List.getElem_replicate,zwa];exact hn,hv⟩
set_option maxRecDepth 100000 in
set_option maxHeartbeats 3200000 in
theorem blank_any (n:Nat) (w:World) (hn1:1≤n) (hn:n≤4):
 Calls Try.prog 107 #[.int .i64 (n:Nat)] w (fun e w'=>∃vs ve vr rs,e= .returned (.agg #[.string { data:=#[] },vs,vr,ve])∧zve w' w.heap.size vs ve vr rs (zeb n) (zeb n) (List.replicate n (zeb n))∧Below w.heap.size w w'):=by
 obtain⟨i4,hi4,hz4,hs4,hy4⟩:=info_parts Try.infoRow
 have hAR:=fun{ops:Array Oper} {o:Oper} {a:Act} {w:World} {K:Act→World→Prop} {Q:Exit→Act→World→Prop} {E:Prop}=>step_app_row (P:=Try.prog) 24 23 i4 Try.underlying24 hi4 hz4 hs4 hy4 (ops:=ops) (o:=o) (a:=a) (w:=w) (K:=K) (Q:=Q) (E:=E)
 clear hi4 hz4 hs4 hy4
 have hN:((w.alloc (.cells #[.int .i64 (n:Nat)] 3)).alloc (.cells #[.string { data:=#[] }, .slice none 0 0, .slice none 0 0, .slice none 0 0] 26)).cell? ⟨w.heap.size,0,none⟩=some (.int .i64 (n:Nat)):=by go_simp
 have hT:=C4.new (w.alloc (.cells #[.int .i64 (n:Nat)] 3)) 26 (.string { data:=#[] }) (.slice none 0 0) (.slice none 0 0) (.slice none 0 0)
 have hbw:=zaa (zca w (.cells #[.int .i64 (n:Nat)] 3)) (zca (w.alloc (.cells #[.int .i64 (n:Nat)] 3)) (.cells #[.string { data:=#[] }, .slice none 0 0, .slice none 0 0, .slice none 0 0] 26))
 go_enter Try.func107,Try.ntmps107
 go_upto_region 2 with fail
 have htb:(w.alloc (.cells #[.int .i64 (n:Nat)] 3)).heap.size=w.heap.size+1:=by show(w.heap.push _).size=_;rw[Array.size_push]
 rw[htb]at hT
 generalize hW:(w.alloc (.cells #[.int .i64 (n:Nat)] 3)).alloc (.cells #[.string { data:=#[] }, .slice none 0 0, .slice none 0 0, .slice none 0 0] 26)=W2 at *
 have HN:=zH hN
 have HT:=zH hT
 have HBW:=zH hbw
 clear hN hT hbw htb hW
 have tok1:True:=trivial
 go_wp2_with (first
  |(go_at_call 124;have _t:=tok1;(with_reducible refine(zij _ n _ HN.out hn1 hn).mono ?_);rintro e5 w5 ⟨v5,rfl,hv5,hb5⟩
    obtain⟨s1,s2,s3,rfl,_⟩:=id hv5.sl
    have HV5:=zH hv5
    have HB5:=zH hb5
    have HN5:=zH (zba hb5 HN.out)
    clear hv5 hb5 tok1 _t)
  |(go_at_call 124
    (with_reducible refine(zij _ n _ HN5.out hn1 hn).mono ?_);rintro e6 w6 ⟨v6,rfl,hv6,hb6⟩
    obtain⟨e1,e2,e3,rfl,_⟩:=id hv6.sl
    have hba:=zca w6 (.cells #[.string { data:=#[] }, .slice s1 s2 s3, .slice none 0 0, .slice e1 e2 e3] 26)
    have HB6:=zH (zaa (zaa HB5.out hb6) hba)
    have HC6:=zH (C4.new w6 26 (.string { data:=#[] }) (.slice s1 s2 s3) (.slice none 0 0) (.slice e1 e2 e3))
    obtain⟨g5,k1,_,k3,k4,_⟩:=HV5.out.blk (by rw[zwa];exact hn1)
    obtain⟨g6,m1,_,m3,m4,_⟩:=hv6.blk (by rw[zwa];exact hn1)
    have HW6:Hid (zve w6 W2.heap.size (.slice s1 s2 s3) (.slice e1 e2 e3) (.slice none 0 0) [] (zeb n) (zeb n) []):=zH ⟨HV5.out.moves (zhb.below (B:=W2.heap.size) hb6) (Nat.le_refl _),hv6.mono HB5.out.size,zlc.nil _ _ _ _,rfl,fun j h=>(by cases h),(by rw[k1,m1];intro e;injection e with e;omega),fun j h=>(by cases h),fun i j h=>(by cases h),Nat.le_trans HB5.out.size hb6.size⟩
    have HL6:=zH (HW6.out.below hba)
    have HSZ:Hid (W2.heap.size≤w6.heap.size):=zH (Nat.le_trans HB5.out.size hb6.size)
    clear hv6 hb6 hba k1 k3 k4 m1 m3 m4 HV5 HB5 HN5 HW6))
 obtain⟨b4,hb4⟩:∃b,w6.heap.size=b:=⟨_,rfl⟩
 rw[hb4]at HC6 ⊢
 have HB4:Hid (W2.heap.size≤b4):=zH (by rw[←hb4];exact HSZ.out)
 clear hb4
 go_loopg [5] (n) (fun g u5 wr=>∃ (i:Nat) (vr:Value) (rs:List Value),i≤n∧g=n-i∧u5= .int .i64 i∧zve wr W2.heap.size (.slice s1 s2 s3) (.slice e1 e2 e3) vr rs (zeb n) (zeb n) (List.replicate i (zeb n))∧(rs= []→vr.ownBlock=none)∧C4 wr b4 (.string { data:=#[] }) (.slice s1 s2 s3) vr (.slice e1 e2 e3)∧Below W2.heap.size W2 wr)
 case atStart=>exact⟨0,_,_,Nat.zero_le _,rfl,rfl,HL6.out,fun _=>rfl,HC6.out,HB6.out⟩
 case round=>
  obtain⟨i,vr,rs,hin,hg,rfl,hl,hnv,hc,hbr⟩:=hrel
  obtain⟨wx,hwx⟩:∃w6,w6=wr:=⟨_,rfl⟩
  subst hwx
  have HG:=zH hg
  have HL:=zH hl
  have HNV:=zH hnv
  have HC:=zH hc
  have HBR:=zH hbr
  have hN:=zba hbr HN.out
  clear hg hl hnv HL6 HC6 HB6
  by_cases hil:i<n
  ·have i1:(0:Int)≤(i:Int):=by omega
   have i2:(i:Int)<(n:Nat):=by omega
   go_wp2_with fail
   obtain⟨hlt4,c0,c1,c2,c3,f0,f1,f2,f3⟩:=hc
   obtain⟨y1,y2,y3,rfl,_⟩:=id HL.out.ra.sl
   have hbD:=zja (B:=wx.heap.size) wx
   have HND:=zH (zba hbD hN)
   have HLD:=zH (HL.out.below hbD)
   have HCD:=zH (HC.out.belowS hbD)
   have HBD:=zH (zfa HBR.out hbD HBR.out.size)
   clear hN hbr
   refine wpL.start 7 (fun w'=>w'.cell? ⟨b4,2,none⟩=some (.slice y1 y2 y3)) (by kernel_rfl) (zba hbD c2) (fun hHeld=> ?_)
   clear c0 c1 c2 c3 f0 f1 f2 f3 hbD
   generalize wx.drew=wd at *
   refine wpL.u 0 ?_
   refine wpL.u 2 ?_
   refine wpL.t 1 ?_
   (refine wpL.oo 3 ?_;intro K hK)
   refine zxa 124 #[.pointer (some ⟨w.heap.size,0,none⟩)] ?_ ?_ (zij _ n wd HND.out hn1 hn) ?_
   ·rfl
   ·go_simp
   rintro e7 w7 ⟨v7,rfl,hv7,hb7⟩
   obtain⟨r1,r2,r3,rfl,_⟩:=id hv7.sl
   refine⟨_,rfl,?_⟩
   refine hK.out _ _ (fun _=>zba hb7 hHeld) ?_
   have h7:=zba hb7 hHeld
   clear hK K hHeld
   try simp only[Act.put,List.setIfInBounds_toArray,List.set_cons_zero,List.set_cons_succ]
   (refine wpL.oo 4 ?_;intro K hK)
   rw[if_pos (by rfl)]
   go_simp
   have hb8:=zca w7 (.cells #[.slice r1 r2 r3] 23)
   refine hK.out _ _ (fun _=>zba hb8 h7) ?_
   clear hK K
   try simp only[Act.put,List.setIfInBounds_toArray,List.set_cons_zero,List.set_cons_succ]
   have hle:=HBD.out.size
   have hrow:=(hv7.mono hle).moves (zhb.below (B:=W2.heap.size) hb8) (Nat.le_refl _)
   have L8:=(HLD.out.below hb7).below hb8
   have hzl:0<(zeb n).length:=by rw[zwa];exact hn1
   have n1:=own_ne HLD.out.s hv7 hzl
   have n2:=own_ne HLD.out.e hv7 hzl
   have n3:∀ (j:Nat) (h:j<rs.length),rs[j].ownBlock≠(Value.slice r1 r2 r3).ownBlock:=fun j h=>(own_ne (HLD.out.rows j h (by rw[←HLD.out.rl];exact h)) hv7 hzl).symm
   have hrl:rs.length≤1000:=by have h:=HLD.out.rl;rw[List.length_replicate]at h;omega
   have C8:=(HCD.out.belowS hb7).belowS hb8
   have hb48:=zfa (zfa HBD.out hb7 HBD.out.size) hb8 (Nat.le_trans HBD.out.size hb7.size)
   have hc8:(w7.alloc (.cells #[.slice r1 r2 r3] 23)).cell? ⟨w7.heap.size,0,none⟩=some (.slice r1 r2 r3):=by go_simp
   have hsz8:=hb48.size
   have hslr:=hv7.sl
   generalize w7.alloc (.cells #[.slice r1 r2 r3] 23)=w8 at *
   generalize w7.heap.size=g7 at *
   clear hv7 hb7 hb8 h7 HLD HCD hle
   (refine wpL.oo 5 ?_;intro K hK)
   refine hAR rfl _ _ (by rfl) W2.heap.size (.slice y1 y2 y3) rs (by rfl) L8.ra (.slice r1 r2 r3) hslr g7 (by rfl) hc8 hrl hsz8 ?_
   intro v9 w9 ho9 hg9 hn9 hs9
   obtain⟨x1,x2,x3,rfl,_⟩:=id hs9
   have hnv:(Value.slice y1 y2 y3).ownBlock≠some b4:=by
    rcases Nat.eq_zero_or_pos rs.length with h0 | h0
    ·rw[HNV.out (List.length_eq_zero_iff.1 h0)];intro e;cases e
    ·exact L8.ra.neB h0 (fun j hj=>(L8.rows j hj (by rw[←L8.rl];exact hj)).sl) C8.c0
   have C9:=C8.grown hg9 hnv
   have P9:zve.Pos (.slice x1 x2 x3) (rs++ [.slice r1 r2 r3]) (zeb n) (zeb n) (List.replicate (i+1) (zeb n)):=zeros_pos hn1 (fun h=>by simp at h)
   have h9:=L8.push hrow n1 n2 n3 ho9 hg9 hn9
   rw[←List.replicate_succ']at h9
   have HL10:=zH (h9.1.over P9 C9.c0 (p:=⟨b4,2,none⟩) rfl C9.c2 (fun z=>by simp) (.slice x1 x2 x3))
   have HC10:=zH (C9.set2 (.slice x1 x2 x3))
   have HB10:=zH ((hb48.trans h9.2).setCell (p:=⟨b4,2,none⟩) HB4.out (.slice x1 x2 x3))
   have hc92:=C9.c2
   have hf92:=C9.f2
   refine hK.out _ _ (fun h=>hc92) ?_
   clear hK K h9 P9 C9 C8 L8 hnv hrow n1 n2 n3 ho9 hg9 hn9 hb48
   try simp only[Act.put,List.setIfInBounds_toArray,List.set_cons_zero,List.set_cons_succ]
   (refine wpL.oo 6 ?_;intro K hK)
   rw[if_pos (by rfl)]
   go_simp
   refine hK.out _ _ (fun h=>hc92) ?_
   clear hK K
   try simp only[Act.put,List.setIfInBounds_toArray,List.set_cons_zero,List.set_cons_succ]
   (refine wpL.oo 7 ?_;intro K hK)
   rw[if_pos (by rfl)]
   go_simp
   refine hK.out _ _ (fun h=>by first | cases h | simp at h) ?_
   clear hK K hc92 hf92
   refine wpL.done (by kernel_rfl) ?_ _
   go_wp2_with fail
   go_roundg (n- (i+1))
   case measure=>(have:=HG.out;omega)
   case rel=>exact⟨i+1,_,_,by omega,rfl,by go_num,HL10.out,fun h=>by simp at h,HC10.out,HB10.out⟩
  ·obtain rfl:i=n:=by omega
   have HT2:=zH (HT.out.belowS hbr)
   obtain⟨hlt4,c0,c1,c2,c3,f0,f1,f2,f3⟩:=hc
   obtain⟨tlt4,d0,d1,d2,d3,g0,g1,g2,g3⟩:=HT2.out
   obtain⟨y1,y2,y3,rfl,_⟩:=id HL.out.ra.sl
   have P9:zve.Pos (.slice y1 y2 y3) rs (zeb i) (zeb i) (List.replicate i (zeb i)):=zeros_pos hn1 HNV.out
   have HL9:=zH ((HL.out.set4 P9 HT2.out (fun z=>by simp) (fun z=>by simp) (fun z=>by simp) { data:=#[] } (.slice s1 s2 s3) (.slice y1 y2 y3) (.slice e1 e2 e3)).mono HBW.out.size)
   have HB9:=zH (zqd (zaa HBW.out hbr) (Nat.le_succ _) (.string { data:=#[] }) (.slice s1 s2 s3) (.slice y1 y2 y3) (.slice e1 e2 e3))
   clear hbr P9
   go_wp2_with fail
   refine zvl rfl rfl Try.aggL Try.sizeL (HT2.out.set _ _ _ _) rfl ?_
   exact⟨_,_,_,_,rfl,HL9.out,HB9.out⟩
instance (s :Bool) (n d:Nat):Decidable (zuh s n d):=inferInstanceAs (Decidable (_∧_∧_∧_))
set_option maxRecDepth 100000 in
set_option maxHeartbeats 3200000 in
theorem rate_any (va:Value) (s:Bool) (n d:Nat) (w:World) (ha:zdc w va s n d):Calls Try.prog 106 #[va] w (fun e w'=>e= .returned (.bool (decide (zuh s n d)))∧Below w.heap.size w w'):=by
 obtain⟨x0,y0,rfl,h1,h2⟩:=id ha
 obtain⟨a11,l11,k11,rfl,_⟩:=h1.slen.1
 obtain⟨a12,l12,k12,rfl,_⟩:=h2.slen.1
 have hba:=zca w (.cells #[.bool s, .slice a11 l11 k11, .slice a12 l12 k12] 32)
 have HC:=zH (C3.new w 32 (.bool s) (.slice a11 l11 k11) (.slice a12 l12 k12))
 have HA:=zH (ha.below hba)
 have HB:=zH hba
 obtain⟨_,c0,c1,c2,_,_,_⟩:=HC.out
 clear ha hba h1 h2
 by_cases hk:okN n d
 ·have HK:=zH hk
  obtain⟨q,hq⟩:∃q,fq s n d=q:=⟨_,rfl⟩
  have HRED:Hid (∀w0 vx,zdc w0 vx s n d→Calls Try.prog 88 #[vx] w0 (RF0 w0 q)):=zH (fun w0 vx h=>by
   refine(zef vx _ _ _ w0 h).mono ?_
   rintro e w' ⟨v,er,rfl,hb,h1,_⟩
   obtain⟨rfl,h2⟩:=h1 HK.out
   rw[hq]at h2
   exact⟨v,rfl,h2,hb⟩)
  have HPQ:Hid (zuh s n d↔0<q∧zua q.num.natAbs≤32∧zua q.den≤32):=zH (by
   unfold zuh
   rw[hq]
   exact⟨fun h=>h.2,fun h=>⟨HK.out,h⟩⟩)
  clear hk
  go_enter Try.func106,Try.ntmps106
  go_upto_region 2 with(first
   |(go_at_call 88;(with_reducible refine(HRED.out _ _ HA.out).mono ?_);rintro e3 w3 ⟨v3,rfl,hv3,hb3⟩
     obtain⟨x3,y3,rfl,n1,n2⟩:=id hv3
     obtain⟨a31,l31,k31,rfl,_⟩:=id n1.v.sl
     obtain⟨a32,l32,k32,rfl,_⟩:=id n2.v.sl
     have hba:=zca w3 (.cells #[.bool (decide (q<0)), .slice a31 l31 k31, .slice a32 l32 k32] 32)
     have HC3:=zH (C3.new w3 32 (.bool (decide (q<0))) (.slice a31 l31 k31) (.slice a32 l32 k32))
     have HN1:=zH (n1.below hba).nat
     have HN2:=zH (n2.below hba).nat
     have HB3:=zH (zaa HB.out (zaa hb3 hba))
     clear c0 c1 c2 hv3 hb3 hba n1 n2))
  obtain⟨b3,hb3⟩:∃b,w3.heap.size=b:=⟨_,rfl⟩
  rw[hb3]at HC3 ⊢
  clear hb3
  generalize w3.alloc (.cells #[.bool (decide (q<0)), .slice a31 l31 k31, .slice a32 l32 k32] 32)=W3 at *
  obtain⟨_,c0,c1,c2,_,_,_⟩:=HC3.out
  obtain⟨m1,hm1⟩:∃m,zua q.num.natAbs=m:=⟨_,rfl⟩
  obtain⟨m2,hm2⟩:∃m,zua q.den=m:=⟨_,rfl⟩
  have HM1:=zH hm1
  have HM2:=zH hm2
  have HZ:Hid (m1=0→¬0<q):=zH (fun h0 hq0=>by
   rw[←hm1]at h0
   have h3:q.num.natAbs<2^0:=zwb.1 (Nat.le_of_eq h0)
   have h4:q.num.natAbs=0:=by simpa using h3
   rw[Rat.num_eq_zero.1 (Int.natAbs_eq_zero.1 h4)]at hq0
   exact absurd hq0 (by decide))
  have HNZ:Hid (¬q<0→m1≠0→0<q):=zH (fun h0 h3=>by
   have h4:q≠0:=fun e=>by
    rw[e]at hm1
    exact h3 (by rw[←hm1];decide)
   grind)
  rw[hm1,hm2]at HPQ
  clear hm1 hm2
  have HEND:Hid (∀b:Bool,(b=true↔(0<q∧m1≤32∧m2≤32))→decide (zuh s n d)=b):=zH (fun b hb=>by
   cases b with
   | true=>exact decide_eq_true (HPQ.out.2 (hb.1 rfl))
   | false=>exact decide_eq_false (fun h=>by have:=hb.2 (HPQ.out.1 h);cases this))
  by_cases h1:q<0
  ·have e1:decide (q<0)=true:=decide_eq_true h1
   go_wp2_with (first
    |(go_at_call 91;(with_reducible refine(zva _ q.num.natAbs _ HN1.out).mono ?_);rw[HM1.out];rintro e4 w4 ⟨rfl,rfl⟩)
    |(go_at_call 91;(with_reducible refine(zva _ q.den _ HN2.out).mono ?_);rw[HM2.out];rintro e5 w5 ⟨rfl,rfl⟩))
   go_ret
   exact⟨by rw[HEND.out false (by simp;intro h;exact absurd (Rat.le_of_lt h) (Rat.not_le.2 h1))];rfl,HB3.out⟩
  ·have e1:decide (q<0)=false:=decide_eq_false h1
   by_cases h2:m1=0
   ·have e2:decide ((0:Int)<(m1:Nat))=false:=decide_eq_false (by omega)
    go_wp2_with (first
     |(go_at_call 91;(with_reducible refine(zva _ q.num.natAbs _ HN1.out).mono ?_);rw[HM1.out];rintro e4 w4 ⟨rfl,rfl⟩)
     |(go_at_call 91;(with_reducible refine(zva _ q.den _ HN2.out).mono ?_);rw[HM2.out];rintro e5 w5 ⟨rfl,rfl⟩))
    go_ret
    exact⟨by rw[HEND.out false (by simp;intro h;exact absurd h (HZ.out h2))];rfl,HB3.out⟩
   ·have e2:decide ((0:Int)<(m1:Nat))=true:=decide_eq_true (by omega)
    by_cases h3:m1≤32
    ·have e3:decide (((m1:Nat):Int)≤32)=true:=decide_eq_true (by omega)
     by_cases h4:m2≤32
     ·have e4:decide (((m2:Nat):Int)≤32)=true:=decide_eq_true (by omega)
      go_wp2_with (first
       |(go_at_call 91;(with_reducible refine(zva _ q.num.natAbs _ HN1.out).mono ?_);rw[HM1.out];rintro e4 w4 ⟨rfl,rfl⟩)
       |(go_at_call 91;(with_reducible refine(zva _ q.den _ HN2.out).mono ?_);rw[HM2.out];rintro e5 w5 ⟨rfl,rfl⟩))
      go_ret
      exact⟨by rw[HEND.out true ⟨fun _=>⟨HNZ.out h1 h2,h3,h4⟩,fun _=>rfl⟩];rfl,HB3.out⟩
     ·have e4:decide (((m2:Nat):Int)≤32)=false:=decide_eq_false (by omega)
      go_wp2_with (first
       |(go_at_call 91;(with_reducible refine(zva _ q.num.natAbs _ HN1.out).mono ?_);rw[HM1.out];rintro e4 w4 ⟨rfl,rfl⟩)
       |(go_at_call 91;(with_reducible refine(zva _ q.den _ HN2.out).mono ?_);rw[HM2.out];rintro e5 w5 ⟨rfl,rfl⟩))
      go_ret
      exact⟨by rw[HEND.out false (by simp;intro _ _;omega)];rfl,HB3.out⟩
    ·have e3:decide (((m1:Nat):Int)≤32)=false:=decide_eq_false (by omega)
     go_wp2_with (first
      |(go_at_call 91;(with_reducible refine(zva _ q.num.natAbs _ HN1.out).mono ?_);rw[HM1.out];rintro e4 w4 ⟨rfl,rfl⟩)
      |(go_at_call 91;(with_reducible refine(zva _ q.den _ HN2.out).mono ?_);rw[HM2.out];rintro e5 w5 ⟨rfl,rfl⟩))
     go_ret
     exact⟨by rw[HEND.out false (by simp;intro _ _;omega)];rfl,HB3.out⟩
 ·have HRED:Hid (∀w0 vx,zdc w0 vx s n d→Calls Try.prog 88 #[vx] w0 (fun e w'=>e= .returned (.tuple #[.agg #[.bool false, .slice none 0 0, .slice none 0 0], .int .i64 1])∧Below w0.heap.size w0 w')):=zH (fun w0 vx h=>by
   refine(zef vx _ _ _ w0 h).mono ?_
   rintro e w' ⟨v,er,rfl,hb,_,h1⟩
   obtain⟨rfl,rfl⟩:=h1 hk
   exact⟨rfl,hb⟩)
  have HF:Hid (decide (zuh s n d)=false):=zH (decide_eq_false (fun h=>hk h.1))
  clear hk
  go_enter Try.func106,Try.ntmps106
  go_wp2_with (first
   |(go_at_call 88;(with_reducible refine(HRED.out _ _ HA.out).mono ?_);rintro e3 w3 ⟨rfl,hb3⟩
     have HB3:=zH (zaa HB.out (zaa hb3 (zca w3 (.cells #[.bool false, .slice none 0 0, .slice none 0 0] 32))))))
  go_ret
  exact⟨by rw[HF.out];rfl,HB3.out⟩
end Go.Proofs.Ytlpdkbmmbdfoiaa
