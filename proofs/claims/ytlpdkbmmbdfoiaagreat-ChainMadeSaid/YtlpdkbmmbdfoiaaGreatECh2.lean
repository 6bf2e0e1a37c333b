/- Lemmas. -/
import Derived.Test.YtlpdkbmmbdfoiaaGreatERb7
set_option linter.unusedVariables false
set_option linter.unusedSimpArgs false
namespace Go.Proofs.YtlpdkbmmbdfoiaaGreat
set_option maxRecDepth 100000
set_option maxHeartbeats 800000
open Go.RowKit
structure znb (w:World) (b:Nat) (l:List Nat) (at':Nat):Prop where
 lt:b<w.heap.size
 ex:∃v,w.cell? ⟨b,0,none⟩=some v/\zhc w v (l.map fun x:Nat=>Value.int .u8 (x:Nat))
 c1:w.cell? ⟨b,1,none⟩=some (.int .i64 (at':Nat))
 f1:w.frozen? ⟨b,1,none⟩=false
 len:l.length<=400
 le:at'<=400
 byte:∀x∈l,x<256
def zyl (b:Nat) (w w':World):Prop:=(∃k,w'=w.drewN k)\/∃k k' a,w'=((w.drewN k).setCell ⟨b,1,none⟩ (.int .i64 a)).drewN k'
def RNext (w0:World) (b:Nat) (l:List Nat) (n:Nat) (e:Ending) (w:World):Prop:=∃x a:Nat,e= .returned (.int .i64 (x:Nat))/\x<n/\znb w b l a/\zyl b w0 w
theorem znb.drawn {w:World} {b:Nat} {l:List Nat} {a:Nat} (h:znb w b l a) (k:Nat):znb (w.drewN k) b l a:=by
 obtain⟨lt,⟨v,e1,e2⟩,c1,f1,h1,h2,h3⟩:=h
 have hb:=zka (B:=w.heap.size) w k
 exact⟨zLM lt hb.size,⟨v,zba hb e1,e2.below hb⟩,zba hb c1,by rw[hb.frozen lt];exact f1,h1,h2,h3⟩
theorem next_zero (b:Nat) (l:List Nat) (a n:Nat) (w:World) (h:znb w b l a) (hn:1<=n) (hn2:n<=65536) (hz:l.length<=a\/n<2):
 Calls Tryz.prog 107 #[.pointer (some ⟨b,0,none⟩), .int .i64 n] w (RNext w b l n):=by
 obtain⟨v,e1,e2⟩:=h.ex
 have c1:=h.c1
 have f1:=h.f1
 have sv:=zhc.sl e2
 have lv:slen v=l.length:=by have:=zhc.len e2;simpa using this
 have hll:=h.len
 have hle:=h.le
 by_cases h1:l.length<=a
 ·have hd:decide (((l.length:Nat):Int)<=(a:Nat))=true:=decide_eq_true (by omega)
  go_enter Tryz.func107,Tryz.ntmps107
  go_wp2
  go_quiet (fail)
  go_wp2
  go_ret
  exact⟨0,a,rfl,hn,h.drawn _,Or.inl ⟨_,rfl⟩⟩
 ·have hd:decide (((l.length:Nat):Int)<=(a:Nat))=false:=decide_eq_false (by omega)
  have h2:n<2:=hz.resolve_left h1
  have hd2:decide ((n:Int)<2)=true:=decide_eq_true (by omega)
  go_enter Tryz.func107,Tryz.ntmps107
  go_wp2
  go_quiet (fail)
  go_wp2
  go_ret
  exact⟨0,a,rfl,hn,h.drawn _,Or.inl ⟨_,rfl⟩⟩
theorem cell_tick {w:World} {b:Nat} {a0:Int} {p:Addr} {x:Value} (hc:w.cell? ⟨b,1,none⟩=some (.int .i64 a0)) (hp:w.cell? p=some x) (hx:∀z,x≠ .int .i64 z) (u:Value):(w.setCell ⟨b,1,none⟩ u).cell? p=some x:=by
 rw[World.cell?_setCell_other]
 ·exact hp
 ·intro e
  rw[<-e,hc]at hp
  injection hp with hp
  exact hx _ hp.symm
theorem znb.tick {w:World} {b:Nat} {l:List Nat} {a:Nat} (h:znb w b l a) (a':Nat) (ha:a'<=400):znb (w.setCell ⟨b,1,none⟩ (.int .i64 (a':Nat))) b l a':=by
 obtain⟨lt,⟨v,e1,e2⟩,c1,f1,h1,h2,h3⟩:=h
 refine⟨by simpa [World.setCell]using lt,⟨v,?_,e2.sl,e2.len,fun j hj=>cell_tick c1 (e2.cell j hj) (fun z=>by simp) _⟩,?_,?_,h1,ha,h3⟩
 ·rw[World.cell?_setCell_other _ _ _ _ (by simp)];exact e1
 ·exact World.cell?_setCell_same _ _ _ c1
 ·go_simp
theorem next_more (b:Nat) (l:List Nat) (a n:Nat) (w:World) (h:znb w b l a) (hn2:n<=65536) (h1:a<l.length) (h2:2<=n):
 Calls Tryz.prog 107 #[.pointer (some ⟨b,0,none⟩), .int .i64 n] w (RNext w b l n):=by
 obtain⟨v,e1,e2⟩:=h.ex
 have c1:=h.c1
 have f1:=h.f1
 have sv:=zhc.sl e2
 have lv:slen v=l.length:=by have:=zhc.len e2;simpa using this
 have hll:=h.len
 have hd:decide (((l.length:Nat):Int)<=(a:Nat))=false:=decide_eq_false (by omega)
 have hd2:decide ((n:Int)<2)=false:=decide_eq_false (by omega)
 have HT:=zH h
 go_enter Tryz.func107,Tryz.ntmps107
 go_wp2
 go_quiet (fail)
 have hT1:=HT.out.drawn nq
 obtain⟨v2,e11,e12⟩:=hT1.ex
 have c2:=hT1.c1
 have f2:=hT1.f1
 clear hd hd2 c1 f1
 go_wp2
 have hT2:znb ((w.drewN nq).setCell ⟨b,1,none⟩ (.int .i64 ((a:Int)+1))) b l (a+1):=by
  have:=hT1.tick (a+1) (by omega)
  rwa[show(((a+1:Nat)):Int)=(a:Int)+1 from by omega]at this
 obtain⟨v3,e13,e14⟩:=hT2.ex
 have c3:=hT2.c1
 have s3:=zhc.sl e14
 have l3:slen v3=l.length:=by have:=zhc.len e14;simpa using this
 have hx:=e14.cell a (by simpa using h1)
 rw[List.getElem_map]at hx
 have hxb:=h.byte l[a] (zGM h1)
 have HTK:Hid (∀k,zyl b w (((w.drewN nq).setCell ⟨b,1,none⟩ (.int .i64 ((a:Int)+1))).drewN k)):=zH (fun k=>Or.inr ⟨_,_,_,rfl⟩)
 generalize l[a]'h1=x at *
 generalize (w.drewN nq).setCell ⟨b,1,none⟩ (.int .i64 ((a:Int)+1))=W2 at *
 have i1:IntKind.i64.wrap ((((a+1:Nat)):Int)-1)=(a:Int):=by rw[IntWalk.i64_in _ (by omega)];omega
 have i2:(0:Int)<=(a:Int):=by omega
 have i3:(a:Int)<(l.length:Nat):=by omega
 have i4:Int.tmod (x:Int) (n:Int)=((x%n:Nat):Int):=by rw[Int.tmod_eq_emod_of_nonneg (by omega)];omega
 go_quiet (fail)
 go_wp2
 go_ret
 exact⟨x%n,a+1,by first | rfl | (congr 2),Nat.mod_lt _ (by omega),hT2.drawn _,HTK.out _⟩
theorem next_any (b:Nat) (l:List Nat) (a n:Nat) (w:World) (h:znb w b l a) (hn:1<=n) (hn2:n<=65536):
 Calls Tryz.prog 107 #[.pointer (some ⟨b,0,none⟩), .int .i64 n] w (RNext w b l n):=by
 rcases Nat.lt_or_ge a l.length with h1 | h1
 ·rcases Nat.lt_or_ge n 2 with h2 | h2
  ·exact next_zero b l a n w h hn hn2 (Or.inr h2)
  ·exact next_more b l a n w h hn2 h1 h2
 ·exact next_zero b l a n w h hn hn2 (Or.inl h1)
theorem zyl.cell {b:Nat} {w w':World} (h:zyl b w w') {a0:Int} (hc:w.cell? ⟨b,1,none⟩=some (.int .i64 a0)) {p:Addr} {x:Value} (hp:w.cell? p=some x) (hx:∀z,x≠ .int .i64 z):w'.cell? p=some x:=by
 rcases h with⟨k,rfl⟩ | ⟨k,k',a,rfl⟩
 ·exact zba (zka w k) hp
 ·refine zba (zka _ k') ?_
  exact cell_tick (zba (zka w k) hc) (zba (zka w k) hp) hx _
theorem zyl.size {b:Nat} {w w':World} (h:zyl b w w'):w.heap.size<=w'.heap.size:=by
 rcases h with⟨k,rfl⟩ | ⟨k,k',a,rfl⟩
 ·exact(zka (B:=w.heap.size) w k).size
 ·have h1:=(zka (B:=w.heap.size) w k).size
  have h2:=(zka (B:=w.heap.size) ((w.drewN k).setCell ⟨b,1,none⟩ (.int .i64 a)) k').size
  have h3:((w.drewN k).setCell ⟨b,1,none⟩ (.int .i64 a)).heap.size=(w.drewN k).heap.size:=by simp[World.setCell]
  omega
theorem zyl.below {b B:Nat} {w w':World} (h:zyl b w w') (hB:B<=b) (hs:B<=w.heap.size):Below B w w':=by
 rcases h with⟨k,rfl⟩ | ⟨k,k',a,rfl⟩
 ·exact zka w k
 ·exact((zka w k).setCell (p:=⟨b,1,none⟩) hB _).trans (zka _ k')
theorem zfc.tick {b:Nat} {w w':World} {l0:List Nat} {a:Nat} (ht:znb w b l0 a) (h:zyl b w w') {v:Value} {l:List Nat} (hv:zfc w v l):zfc w' v l:=
 ⟨hv.sl,hv.len,fun j hj=>h.cell ht.c1 (hv.cell j hj) (fun z=>by simp),hv.lm⟩
theorem zjb.tick {b:Nat} {w w':World} {l0:List Nat} {a:Nat} (ht:znb w b l0 a) (h:zyl b w w') {v:Value} {n:Nat} (hv:zjb w v n):zjb w' v n:=⟨hv.v.tick ht h,hv.2⟩
theorem zqa.tick {b:Nat} {w w':World} {l0:List Nat} {a:Nat} (ht:znb w b l0 a) (h:zyl b w w') {v:Value} {q:Rat} (hv:zqa w v q):zqa w' v q:=by
 obtain⟨x,y,rfl,h1,h2⟩:=hv;exact⟨x,y,rfl,h1.tick ht h,h2.tick ht h⟩
theorem Tryz.infoU8 :(Tryz.prog.info? 5).map (fun i=>(i.zero,i.size,i.bytes))=some (some (.int .u8 0),1,1):=by kernel_rfl
def bytes (l:List Nat):List Value:=l.map fun x:Nat=>Value.int .u8 (x:Nat)
theorem zhc.tk {w:World} {v:Value} {l:List Value} (h:zhc w v l) (n:Nat) (hn:n<=l.length):zhc w (tk v n) (l.take n):=by
 have e:(l.take n).length=n:=by rw[List.length_take];omega
 have h1:=h.sl.le
 have h2:=h.len
 refine⟨h.sl.tk (by omega),by rw[e];exact h.sl.slen_tk n,fun j hj=> ?_⟩
 rw[ptr_tk,List.getElem_take]
 exact h.cell j (by omega)
def RTape (w0:World) (l:List Nat) (e:Ending) (w:World):Prop:=∃b,e= .returned (.pointer (some ⟨b,0,none⟩))/\w0.heap.size<=b/\znb w b l 0/\Below w0.heap.size w0 w
theorem tape_new (w w1:World) (v:Value) (l:List Nat) (t e:TypeId) (hl:l.length<=400) (hb:∀x∈l,x<256) (h:zce w1 e w.heap.size v (bytes l)) (hbel:Below w.heap.size w w1):
 RTape w l (.returned (.pointer (some ⟨w1.heap.size,0,none⟩))) (w1.alloc (.cells #[v, .int .i64 0] t)):=by
 refine⟨_,rfl,hbel.size,⟨by simp,⟨v,by simp,?_⟩,by simp,by simp,hl,by omega,hb⟩,hbel.alloc hbel.size _⟩
 exact⟨h.sl,by rw[h.len];rfl,fun j hj=>(h.alloc _).cell j hj⟩
theorem append_u8 {P:Program} (t e:TypeId) (i:TypeInfo) (ht:P.underlying t=some (.slice e)) (hi:P.info? e=some i) (hz:i.zero=some (.int .u8 0))
 (hsize:i.size=1) (hby:i.bytes=1) (w:World) {ops:Array Oper} {rest:List Oper} {o:Oper} {a:Act} {Q:Exit->Act->World->Prop} (hgd:o.guard=none) (s x:Operand)
 (ho:o.op= .call { callee:= .builtin .append,args:=#[s,x],argTypes:=#[t,t] })
 (hs:a.eval s= .slice none 0 0) (xv:Value) (hxe:a.eval x=xv) (l:List Nat) (hx:zhc w xv (bytes l)) (hb:l.length<=400)
 (h:∀v' w',zce w' e w.heap.size v' (bytes l)->Below w.heap.size w w'->wpList P ops Q rest (a.put o.dst v') w'):wpList P ops Q (o::rest) a w:=by
 have hl:(bytes l).length=l.length:=by simp[bytes]
 refine zie w hgd s x t ho w.heap.size e i (.int .u8 0) 1 ht hi hz hsize hby rfl _ [] hs (zce.nil _ _ _) xv hxe hx.sl (bytes l) hx.len
  (fun j hj=>hx.cell j hj) (fun u hu=>by obtain⟨x,_,rfl⟩:=List.mem_map.1 hu;rfl)
  (by simp[maxLen,hl];omega) (by simp[hl];omega) (zLR _) ?_
 intro v' w' h2 _ h4
 rw[List.nil_append]at h2
 exact h v' w' h2 h4
set_option maxHeartbeats 1600000 in
theorem new_any (v:Value) (l:List Nat) (w:World) (h:zhc w v (bytes l)) (hb:∀x∈l,x<256):
 Calls Tryz.prog 41 #[v] w (RTape w (l.take 400)):=by
 obtain⟨i0,hi,hz0,hz1,hz2⟩:=info_parts Tryz.infoU8
 have hA:=append_u8 (P:=Tryz.prog) 22 5 i0 Tryz.underlying22 hi hz0 hz1 hz2
 clear hi hz0 hz1 hz2
 have sv:=h.sl
 have lv:slen v=l.length:=by rw[h.len,bytes,List.length_map]
 have hle:=sv.le
 rw[lv]at hle
 by_cases hd:400<l.length
 ·have hd1:decide ((400:Int)<(l.length:Nat))=true:=decide_eq_true (by omega)
  have hcap:(400:Int)<=scap v:=by omega
  have ht2:zhc w (tk v 400) (bytes (l.take 400)):=by have:=h.tk 400 (by simp[bytes];omega);simpa [bytes,List.map_take]using this
  go_enter Tryz.func41,Tryz.ntmps41
  go_wp2_with (at_builtin;refine hA w rfl _ _ rfl rfl _ rfl (l.take 400) ht2 (by simp;omega) ?_;intro v' w1 hown hbel;obtain⟨an,nn,cn,rfl,_⟩:=hown.sl)
  go_ret
  exact tape_new w w1 _ _ _ _ (by simp;omega) (fun x hx=>hb x (List.mem_of_mem_take hx)) hown hbel
 ·have hd1:decide ((400:Int)<(l.length:Nat))=false:=decide_eq_false (by omega)
  rw[List.take_of_length_le (by omega)]
  go_enter Tryz.func41,Tryz.ntmps41
  go_wp2_with (at_builtin;refine hA w rfl _ _ rfl rfl _ rfl l h (by omega) ?_;intro v' w1 hown hbel;obtain⟨an,nn,cn,rfl,_⟩:=hown.sl)
  go_ret
  exact tape_new w w1 _ _ _ _ (by omega) hb hown hbel
structure CQ where
 rates:List (List Rat)
 start:List Rat
 lost:List Bool
def zlq (w:World) (v:Value) (c:CQ):Prop:=∃r s l,v= .agg #[r,s,l]/\MatC w r c.rates/\zbb w s c.start/\zcm w l c.lost
theorem zlq.below {w w':World} {v:Value} {c:CQ} (h:zlq w v c) (hb:Below w.heap.size w w'):zlq w' v c:=by
 obtain⟨r,s,l,rfl,h1,h2,h3⟩:=h;exact⟨r,s,l,rfl,h1.below hb,h2.below hb,h3.below hb⟩
def CQ.raw (c:CQ):RC:=⟨c.rates.map fun r=>r.map RF.of,c.start.map RF.of,c.lost⟩
theorem MatC.raw {w:World} {v:Value} {m:List (List Rat)} (h:MatC w v m):zlw w v (m.map fun r=>r.map RF.of):=
 ⟨h.sl,by rw[h.len,List.length_map],fun j hj=>by
  obtain⟨r,h1,h2⟩:=h.at' j (by simpa using hj)
  rw[List.getElem_map]
  exact⟨r,h1,h2.raw⟩⟩
theorem zlq.raw {w:World} {v:Value} {c:CQ} (h:zlq w v c):zdq w v c.raw:=by
 obtain⟨r,s,l,rfl,h1,h2,h3⟩:=h;exact⟨r,s,l,rfl,h1.raw,h2.raw,h3⟩
theorem zhb.tick {B b a:Nat} {l:List Nat} {w w':World} (ht:znb w b l a) (hb:b<B) (h:zyl b w w'):zhb B w w':=by
 refine⟨h.size,fun g h1 h2=> ?_,fun p z hp=>h.cell ht.c1 hp (fun z=>by simp)⟩
 rcases h with⟨k,rfl⟩ | ⟨k,k',a',rfl⟩
 ·exact(zka (B:=w.heap.size) w k).block g h2
 ·have h3:=(zka (B:=w.heap.size) w k)
  rw[(zka (B:=((w.drewN k).setCell ⟨b,1,none⟩ (.int .i64 a')).heap.size) _ k').block g (by simp[World.setCell];have:=h3.size;omega)]
  rw[Below.heap_setCell _ _ _ _ (by simp;omega)]
  exact h3.block g h2
theorem znb.below {w w':World} {l:List Nat} {b a:Nat} (h:znb w b l a) (hb:Below w.heap.size w w'):znb w' b l a:=by
 obtain⟨lt,⟨v,e1,e2⟩,c1,f1,h1,h2,h3⟩:=h
 exact⟨zLM lt hb.size,⟨v,zba hb e1,e2.below hb⟩,zba hb c1,by rw[hb.frozen lt];exact f1,h1,h2,h3⟩
def zvf (w:World) (b:Nat) (l:List Nat) (B a:Nat):Prop:=znb w b l a/\∀v,w.cell? ⟨b,0,none⟩=some v->∀j,j<l.length->(ptr v j).block<B
theorem znb.b {w:World} {b a:Nat} {l:List Nat} (h:znb w b l a):zvf w b l w.heap.size a:=by
 refine⟨h,fun v hv j hj=> ?_⟩
 obtain⟨v',e1,e2⟩:=h.ex
 rw[e1]at hv
 injection hv with hv
 subst hv
 exact World.block_lt_of_cell? w _ (e2.cell j (by simpa using hj))
theorem zvf.mono {w:World} {b a B B':Nat} {l:List Nat} (h:zvf w b l B a) (hB:B<=B'):zvf w b l B' a:=⟨h.1,fun v hv j hj=>zLM (h.2 v hv j hj) hB⟩
theorem zvf.below {w w':World} {b a B:Nat} {l:List Nat} (h:zvf w b l B a) (hb:Below w.heap.size w w'):zvf w' b l B a:=by
 obtain⟨h1,h2⟩:=h
 refine⟨h1.below hb,fun v hv j hj=> ?_⟩
 rw[hb.cell h1.lt]at hv
 exact h2 v hv j hj
theorem zvf.low {w w':World} {b a B:Nat} {l:List Nat} (h:zvf w b l B a) (hb:Below B w w') (hB:b<B):zvf w' b l B a:=by
 obtain⟨⟨lt,⟨v,e1,e2⟩,c1,f1,h1,h2,h3⟩,h4⟩:=h
 have hl:=h4 v e1
 refine⟨⟨zLM lt hb.size,⟨v,by rw[hb.cell (by exact hB)];exact e1,e2.sl,e2.len,fun j hj=> ?_⟩,by rw[hb.cell (by exact hB)];exact c1,by rw[hb.frozen (by exact hB)];exact f1,h1,h2,h3⟩,fun u hu j hj=> ?_⟩
 ·rw[hb.cell (hl j (by simpa using hj))];exact e2.cell j hj
 ·rw[hb.cell (by exact hB)]at hu
  exact h4 u hu j hj
theorem zvf.tick {w w':World} {b a a' B:Nat} {l:List Nat} (h:zvf w b l B a) (ht:zyl b w w') (hta:znb w' b l a'):zvf w' b l B a':=by
 refine⟨hta,fun v hv j hj=> ?_⟩
 obtain⟨u,e1,e2⟩:=h.1.ex
 have e3:=ht.cell h.1.c1 e1 (fun z=>by obtain⟨a,n,c,rfl,_⟩:=zhc.sl e2;simp)
 rw[e3]at hv
 injection hv with hv
 subst hv
 exact h.2 _ e1 j hj
theorem zvf.set {w:World} {b a B:Nat} {l:List Nat} (h:zvf w b l B a) {p:Addr} {x:Value} (hp:p.block≠b) (hc:w.cell? p=some x) (hx:∀z,x≠ .int .u8 z) (u:Value):zvf (w.setCell p u) b l B a:=by
 obtain⟨⟨lt,⟨v,e1,e2⟩,c1,f1,h1,h2,h3⟩,h4⟩:=h
 have hne:∀k,p≠⟨b,k,none⟩:=fun k e=>hp (by rw[e])
 refine⟨⟨by simpa [World.setCell]using lt,⟨v,by rw[World.cell?_setCell_other _ _ _ _ (hne _)];exact e1,e2.sl,e2.len,fun j hj=> ?_⟩,by rw[World.cell?_setCell_other _ _ _ _ (hne _)];exact c1,by rw[World.frozen?_setCell];exact f1,h1,h2,h3⟩,fun u' hu j hj=> ?_⟩
 ·rw[World.cell?_setCell_other]
  ·exact e2.cell j hj
  ·intro e
   have h6:=e2.cell j hj
   rw[<-e,hc]at h6
   injection h6 with h6
   rw[List.getElem_map]at h6
   exact hx _ h6
 ·rw[World.cell?_setCell_other _ _ _ _ (hne _)]at hu
  exact h4 u' hu j hj
theorem zyl.frozen {w w':World} {b:Nat} (h:zyl b w w') {p:Addr} (hp:p.block<w.heap.size):w'.frozen? p=w.frozen? p:=by
 rcases h with⟨k,rfl⟩ | ⟨k,k',a,rfl⟩
 ·exact(zka (B:=w.heap.size) w k).frozen hp
 ·have h1:=(zka (B:=w.heap.size) w k)
  rw[(zka (B:=((w.drewN k).setCell ⟨b,1,none⟩ (.int .i64 a)).heap.size) _ k').frozen (by simp[World.setCell];have:=h1.size;omega)]
  rw[World.frozen?_setCell]
  exact h1.frozen hp
theorem C3.tick {w w':World} {b a c:Nat} {l:List Nat} {v0 v1 v2:Value} (h:C3 w c v0 v1 v2) (hta:znb w b l a) (ht:zyl b w w') (n0:∀z,v0≠ .int .i64 z) (n1:∀z,v1≠ .int .i64 z) (n2:∀z,v2≠ .int .i64 z):C3 w' c v0 v1 v2:=
 ⟨zLM h.lt ht.size,ht.cell hta.c1 h.c0 n0,ht.cell hta.c1 h.c1 n1,ht.cell hta.c1 h.c2 n2,by rw[ht.frozen h.lt];exact h.f0,by rw[ht.frozen h.lt];exact h.f1,by rw[ht.frozen h.lt];exact h.f2⟩
theorem zgc.noInt {v:Value} (h:zgc v):∀z,v≠ .int .i64 z:=fun z e=>by obtain⟨a,n,c,rfl,_⟩:=h;cases e
theorem zgc.noLimb {v:Value} (h:zgc v):∀z,v≠ .int .u32 z:=fun z e=>by obtain⟨a,n,c,rfl,_⟩:=h;cases e
theorem zgc.noByte {v:Value} (h:zgc v):∀z,v≠ .int .u8 z:=fun z e=>by obtain⟨a,n,c,rfl,_⟩:=h;cases e
theorem zid {w w':World} {B:Nat} {u:Value} (hg:w.grownBy w' u.ownBlock) (hB:B<=w.heap.size) (hu:∀k,u.ownBlock=some k->B<=k/\k<w.heap.size):Below B w w':=zna hg hB (fun k hk=>(hu k hk).1)
structure ChW (w:World) (bt:Nat) (l:List Nat) (B b5:Nat) (vr vs vl:Value) (rs:List Value) (rates:List (List Rat)) (start:List Rat) (lost:List Bool):Prop where
 tape:∃a,zvf w bt l B a
 box:C3 w b5 vr vs vl
 st:zya w 38 B vs start
 lo:zlc w 4 B 1 vl (lost.map Value.bool).length (lost.map Value.bool)
 ra:zlc w 25 B 1 vr rs.length rs
 rl:rs.length=rates.length
 rows:∀ (j:Nat) (h:j<rs.length) (h':j<rates.length),zya w 38 B rs[j] rates[j]/\(rs[j].ownBlock=none\/rs[j].ownBlock≠vs.ownBlock)
 sz:B<=w.heap.size
 bt5:bt<B/\b5<B/\b5≠bt
section
variable {w w':World} {bt:Nat} {l:List Nat} {B b5:Nat} {vr vs vl:Value} {rs:List Value} {rates:List (List Rat)} {start:List Rat} {lost:List Bool}
theorem ChW.of (h:ChW w bt l B b5 vr vs vl rs rates start lost) (hm:zhb B w w') (ht:∃a,zvf w' bt l B a) (hb:C3 w' b5 vr vs vl):ChW w' bt l B b5 vr vs vl rs rates start lost:=
 ⟨ht,hb,h.st.moves hm (zLR _),h.lo.moves hm (zLR _),h.ra.moves hm (zLR _),h.rl,fun j h1 h2=>⟨(h.rows j h1 h2).1.moves hm (zLR _),(h.rows j h1 h2).2⟩,zLT h.sz hm.size,h.bt5⟩
theorem ChW.below (h:ChW w bt l B b5 vr vs vl rs rates start lost) (hb:Below w.heap.size w w'):ChW w' bt l B b5 vr vs vl rs rates start lost:=by
 obtain⟨a,ht⟩:=h.tape
 exact h.of (zhb.below hb) ⟨a,ht.below hb⟩ (h.box.belowS hb)
theorem ChW.tick (h:ChW w bt l B b5 vr vs vl rs rates start lost) {a':Nat} (ht:zyl bt w w') (hta:znb w' bt l a'):ChW w' bt l B b5 vr vs vl rs rates start lost:=by
 obtain⟨a,h0⟩:=h.tape
 exact h.of (zhb.tick h0.1 h.bt5.1 ht) ⟨a',h0.tick ht hta⟩ (h.box.tick h0.1 ht h.ra.sl.noInt h.st.sl.noInt h.lo.sl.noInt)
theorem ChW.lostG (h:ChW w bt l B b5 vr vs vl rs rates start lost) {c:Bool} {v':Value} (hv:zlc w' 4 B 1 v' (lost.map Value.bool++ [Value.bool c]).length (lost.map Value.bool++ [Value.bool c])) (hg:w.grownBy w' vl.ownBlock) (hn:zlb w vl):
 ChW (w'.setCell ⟨b5,2,none⟩ v') bt l B b5 vr vs v' rs rates start (lost++ [c])/\Below B w w':=by
 obtain⟨⟨a,ht⟩,box,st,lo,ra,rl,rows,sz,b1,b2,b3⟩:=h
 have hb:=zid (B:=B) hg sz lo.block
 have box':=box.below hb b2
 have hm:zhb B w' (w'.setCell ⟨b5,2,none⟩ v'):=zhb.set b2 box'.c2 lo.sl.noLimb _
 obtain⟨xs,s1,s2⟩:=id st
 have st':zya w' 38 B vs start:=st.grown hg hn (s1.kinds lo (by decide))
 refine⟨⟨⟨a,(ht.low hb b1).set (by exact b3) box'.c2 lo.sl.noByte _⟩,box'.set2 _,st'.moves hm (zLR _),?_,(ra.grown hg (ra.kinds lo (by decide))).moves hm (zLR _),rl,fun j h1 h2=> ?_,zLT sz (zLT hb.size hm.size),b1,b2,b3⟩,hb⟩
 ·rw[List.map_append];exact hv.moves hm (zLR _)
 ·obtain⟨k1,k2⟩:=rows j h1 h2
  obtain⟨ys,y1,y2⟩:=id k1
  exact⟨(k1.grown hg hn (y1.kinds lo (by decide))).moves hm (zLR _),k2⟩
theorem ChW.startG (h:ChW w bt l B b5 vr vs vl rs rates start lost) {q:Rat} {v':Value} {k:Nat} (hv:zya w' 38 B v' (start++ [q])) (hg:w.grownBy w' vs.ownBlock) (hn:zlb w vs) (hvb:v'.ownBlock=vs.ownBlock\/v'.ownBlock=some k) (hk:w.heap.size<=k):
 ChW (w'.setCell ⟨b5,1,none⟩ v') bt l B b5 vr v' vl rs rates (start++ [q]) lost/\Below B w w':=by
 obtain⟨⟨a,ht⟩,box,st,lo,ra,rl,rows,sz,b1,b2,b3⟩:=h
 have hb:=zid (B:=B) hg sz st.block
 have box':=box.below hb b2
 have hm:zhb B w' (w'.setCell ⟨b5,1,none⟩ v'):=zhb.set b2 box'.c1 st.sl.noLimb _
 obtain⟨xs,s1,s2⟩:=id st
 refine⟨⟨⟨a,(ht.low hb b1).set (by exact b3) box'.c1 st.sl.noByte _⟩,box'.set1 _,hv.moves hm (zLR _),(lo.grown hg (lo.kinds s1 (by decide))).moves hm (zLR _),(ra.grown hg (ra.kinds s1 (by decide))).moves hm (zLR _),rl,fun j h1 h2=> ?_,zLT sz (zLT hb.size hm.size),b1,b2,b3⟩,hb⟩
 obtain⟨k1,k2⟩:=rows j h1 h2
 refine⟨(k1.grown hg hn k2).moves hm (zLR _),?_⟩
 rcases k2 with k2 | k2
 ·exact Or.inl k2
 ·cases ho:rs[j].ownBlock with
  | none=>exact Or.inl rfl
  | some g=>
    refine Or.inr ?_
    have:=k1.block g ho
    rcases hvb with e | e
    ·rw[e,<-ho];exact k2
    ·rw[e];intro e2;injection e2 with e2;omega
theorem ChW.ratesG (h:ChW w bt l B b5 vr vs vl rs rates start lost) {q:List Rat} {r v':Value} (hr:zya w 38 B r q) (hrs:r.ownBlock=none\/r.ownBlock≠vs.ownBlock) (hv:zlc w' 25 B 1 v' (rs++ [r]).length (rs++ [r])) (hg:w.grownBy w' vr.ownBlock) (hn:zlb w vr):
 ChW (w'.setCell ⟨b5,0,none⟩ v') bt l B b5 v' vs vl (rs++ [r]) (rates++ [q]) start lost/\Below B w w':=by
 obtain⟨⟨a,ht⟩,box,st,lo,ra,rl,rows,sz,b1,b2,b3⟩:=h
 have hb:=zid (B:=B) hg sz ra.block
 have box':=box.below hb b2
 have hm:zhb B w' (w'.setCell ⟨b5,0,none⟩ v'):=zhb.set b2 box'.c0 ra.sl.noLimb _
 obtain⟨xs,s1,s2⟩:=id st
 obtain⟨zs,z1,z2⟩:=id hr
 refine⟨⟨⟨a,(ht.low hb b1).set (by exact b3) box'.c0 ra.sl.noByte _⟩,box'.set0 _,(st.grown hg hn (s1.kinds ra (by decide))).moves hm (zLR _),(lo.grown hg (lo.kinds ra (by decide))).moves hm (zLR _),hv.moves hm (zLR _),by simp[rl],fun j h1 h2=> ?_,zLT sz (zLT hb.size hm.size),b1,b2,b3⟩,hb⟩
 rcases Nat.lt_or_ge j rs.length with hj | hj
 ·have hj2:j<rates.length:=by omega
  rw[List.getElem_append_left hj,List.getElem_append_left hj2]
  obtain⟨k1,k2⟩:=rows j hj hj2
  obtain⟨ys,y1,y2⟩:=id k1
  exact⟨(k1.grown hg hn (y1.kinds ra (by decide))).moves hm (zLR _),k2⟩
 ·obtain rfl:j=rs.length:=by simp at h1;omega
  have e1:(rs++ [r])[rs.length]'h1=r:=by simp
  have e2:(rates++ [q])[rs.length]'h2=q:=by simp[rl]
  rw[e1,e2]
  exact⟨(hr.grown hg hn (z1.kinds ra (by decide))).moves hm (zLR _),hrs⟩
end
structure MkR (w:World) (B:Nat) (v:Value) (rs:List Value) (c:Nat) (A:Mx):Prop where
 ra:zlc w 25 B 1 v rs.length rs
 rows:∀ (j:Nat) (h:j<rs.length),zya w 38 B rs[j] (zib c (A j))
 sz:B<=w.heap.size
section
variable {w w':World} {B c:Nat} {v v' r:Value} {rs:List Value} {A:Mx}
theorem MkR.below (h:MkR w B v rs c A) (hb:Below w.heap.size w w'):MkR w' B v rs c A:=
 ⟨h.ra.moves (zhb.below (B:=B) hb) (zLR _),fun j hj=>(h.rows j hj).moves (zhb.below (B:=B) hb) (zLR _),zLT h.sz hb.size⟩
theorem MkR.push (h:MkR w B v rs c A) (hr:zya w 38 B r (zib c (A rs.length))) (hv:zlc w' 25 B 1 v' (rs++ [r]).length (rs++ [r])) (hg:w.grownBy w' v.ownBlock) (hn:zlb w v):
 MkR w' B v' (rs++ [r]) c A/\Below B w w':=by
 obtain⟨ra,rows,sz⟩:=h
 have hb:Below B w w':=zna hg sz (fun k hk=>(ra.block k hk).1)
 refine⟨⟨hv,fun j h1=> ?_,zLT sz hb.size⟩,hb⟩
 rcases Nat.lt_or_ge j rs.length with hj | hj
 ·rw[List.getElem_append_left hj]
  obtain⟨ys,y1,y2⟩:=id (rows j hj)
  exact(rows j hj).grown hg hn (y1.kinds ra (by decide))
 ·obtain rfl:j=rs.length:=by simp at h1;omega
  have e1:(rs++ [r])[rs.length]'h1=r:=by simp
  obtain⟨zs,z1,z2⟩:=id hr
  rw[e1]
  exact hr.grown hg hn (z1.kinds ra (by decide))
theorem MkR.mat (h:MkR w B v rs c A):zam w v rs.length c A:=
 ⟨h.ra.sl,h.ra.len,fun i hi=>⟨rs[i],h.ra.cell i hi,(h.rows i hi).fracs⟩⟩
end
theorem zbb.cellsAt {w:World} {v:Value} {l:List Rat} (h:zbb w v l) {k:Nat} (hk:k<l.length):
 ∃t a1 l1 k1 a2 l2 k2,w.cell? (ptr v (k*3))=some (.bool t)/\w.cell? (ptr v (k*3+1))=some (.slice a1 l1 k1)/\w.cell? (ptr v (k*3+2))=some (.slice a2 l2 k2)/\zqa w (.agg #[.bool t, .slice a1 l1 k1, .slice a2 l2 k2]) (l.getD k 0):=by
 obtain⟨za,zb,p1,p2,p3,p4,p5⟩:=h.at' k hk
 obtain⟨za1,za2,za3,rfl,_⟩:=p4.v.sl
 obtain⟨zb1,zb2,zb3,rfl,_⟩:=p5.v.sl
 refine⟨_,_,_,_,_,_,_,p1,p2,p3,?_⟩
 rw[zGD,zGE hk]
 exact⟨_,_,rfl,p4,p5⟩
theorem wtsM_lim {a:List (List RF)} (hs:zqh a):zxr a<=536870912*24:=
 zLT (zit a (fun l hl x hx=>(hs.2.2.2.2 l hl).1 x hx) (fun l hl=>by rw[(hs.2.2.2.2 l hl).2];have:=hs.2.2.2.1;omega)) (zML _ hs.2.1)
theorem kc2 {X Y:World} {a1 a2:Addr} {x1 x2:Value} (h:X.cell? a1=some x1/\X.cell? a2=some x2) (hb:Below X.heap.size X Y):Y.cell? a1=some x1/\Y.cell? a2=some x2:=⟨zba hb h.1,zba hb h.2⟩
set_option maxHeartbeats 3200000 in
theorem rshape_any (va:Value) (m:List (List RF)) (w:World) (ha:zlw w va m):
 Calls Tryz.prog 211 #[va] w (RShape w m):=by
 have sa:=ha.sl
 have la:=ha.len
 have hle:=sa.le
 rw[la]at hle
 have hlb:m.length<=9223372036854775807:=by omega
 clear hle
 by_cases h1:m.length<1
 ·have HBAD:Hid (¬zqh m):=zH (fun h=>by have:=h.1;omega)
  go_enter Tryz.func211,Tryz.ntmps211
  go_wp2_with fail
  refine bodyPost_ret (v:= .tuple #[.int .i64 0, .int .i64 0, .bool false]) (by simp[results,Tryz.results211,go_sem]) rfl ⟨?_,Below.refl _ _⟩
  rw[if_neg HBAD.out]
 ·by_cases h2:24<m.length
  ·have HBAD:Hid (¬zqh m):=zH (fun h=>by have:=h.2.1;omega)
   go_enter Tryz.func211,Tryz.ntmps211
   go_wp2_with fail
   refine bodyPost_ret (v:= .tuple #[.int .i64 0, .int .i64 0, .bool false]) (by simp[results,Tryz.results211,go_sem]) rfl ⟨?_,Below.refl _ _⟩
   rw[if_neg HBAD.out]
  ·obtain⟨r0,hc0,hr0⟩:=ha.at' 0 (by omega)
   have hd0:m.headD []=m[0]'(by omega):=by
    cases m with
    | nil=>simp at h1
    | cons a m=>rfl
   rw[<-hd0]at hr0
   have sl0:=hr0.sl
   have ln0:=hr0.len
   obtain⟨x,hx⟩:∃x,m.headD []=x:=⟨_,rfl⟩
   rw[hx]at hr0 ln0 hd0
   have HX:=zH hx
   have i0:0<m.length:=by omega
   clear hd0 hr0 hx h1
   by_cases h3:x.length<1
   ·have HBAD:Hid (¬zqh m):=zH (fun h=>by have:=h.2.2.1;rw[HX.out]at this;omega)
    go_enter Tryz.func211,Tryz.ntmps211
    go_wp2_with fail
    refine bodyPost_ret (v:= .tuple #[.int .i64 0, .int .i64 0, .bool false]) (by simp[results,Tryz.results211,go_sem]) rfl ⟨?_,Below.refl _ _⟩
    rw[if_neg HBAD.out]
   ·by_cases h4:24<x.length
    ·have HBAD:Hid (¬zqh m):=zH (fun h=>by have:=h.2.2.2.1;rw[HX.out]at this;omega)
     go_enter Tryz.func211,Tryz.ntmps211
     go_wp2_with fail
     refine bodyPost_ret (v:= .tuple #[.int .i64 0, .int .i64 0, .bool false]) (by simp[results,Tryz.results211,go_sem]) rfl ⟨?_,Below.refl _ _⟩
     rw[if_neg HBAD.out]
    ·go_enter Tryz.func211,Tryz.ntmps211
     go_wp2_with fail
     go_loopw [5] (fun u5 wr=>∃ (k:Nat),k<=m.length/\u5= .int .i64 k/\(∀l∈m.take k,vecP l x.length)/\Below w.heap.size w wr) (fun u5 _=>m.length- (intOf u5).toNat)
     case atStart=>exact⟨0,zZL _,rfl,fun l h=>by simp at h,Below.refl _ _⟩
     case round=>
      obtain⟨k,hk,rfl,hok,hb⟩:=hrel
      have HOK:=zH hok
      have hc0:=zba hb hc0
      clear hok
      by_cases hkl:k<m.length
      ·obtain⟨rk,hrc,hrk⟩:=(ha.below hb).at' k hkl
       obtain⟨l,hl⟩:∃l,m[k]'hkl=l:=⟨_,rfl⟩
       rw[hl]at hrk
       have HMEM:Hid (l∈m):=zH (by rw[<-hl];exact zGM hkl)
       have HTK:Hid (m.take (k+1)=m.take k++ [l]):=zH (by rw[zxc m k hkl,hl])
       have i1:x.length<=65536:=by omega
       clear hl
       by_cases hv:vecP l x.length
       ·have HV:=zH hv
        clear hv
        go_wp2_with fail
        go_region_held3 (fun w'=>w'.cell? (ptr va k)=some rk/\w'.cell? (ptr va 0)=some r0) (first
         | exact⟨hrc,hc0⟩
         | with_reducible exact kc2 (by assumption) (by assumption)) (first
         |(go_at_call 212;(with_reducible refine(zlv _ l x.length _ (hrk.below (by first | exact zja _ | exact Below.refl _ _))).mono ?_);rw[decide_eq_true HV.out];rintro e w7 ⟨rfl,hb7⟩
           have hb7:=(by first | exact zaa (zja _) hb7 | exact hb7:Below wr.heap.size wr w7)))
        go_wp2_with fail
        go_roundw
        case rel=>exact⟨k+1,hkl,by go_num,fun y hy=>by
         rw[HTK.out]at hy
         rcases List.mem_append.1 hy with h | h
         ·exact HOK.out y h
         ·have :y=l:=by simpa using h
          rw[this];exact HV.out,zaa hb hb7⟩
        case measure=>simp[intOf];omega
       ·have HV:=zH hv
        have HBAD:Hid (¬zqh m):=zH (fun h=>hv (by have:=h.2.2.2.2 l HMEM.out;rw[HX.out]at this;exact this))
        clear hv
        go_wp2_with fail
        go_region_held3 (fun w'=>w'.cell? (ptr va k)=some rk/\w'.cell? (ptr va 0)=some r0) (first
         | exact⟨hrc,hc0⟩
         | with_reducible exact kc2 (by assumption) (by assumption)) (first
         |(go_at_call 212;(with_reducible refine(zlv _ l x.length _ (hrk.below (by first | exact zja _ | exact Below.refl _ _))).mono ?_);rw[decide_eq_false HV.out];rintro e w7 ⟨rfl,hb7⟩
           have hb7:=(by first | exact zaa (zja _) hb7 | exact hb7:Below wr.heap.size wr w7)))
        go_wp2_with fail
        refine bodyPost_ret (v:= .tuple #[.int .i64 0, .int .i64 0, .bool false]) (by simp[results,Tryz.results211,go_sem]) rfl ⟨?_,zaa hb hb7⟩
        rw[if_neg HBAD.out]
      ·obtain rfl:k=m.length:=by omega
       have HG:Hid (zqh m):=zH (by
        have h:=HOK.out
        rw[List.take_length]at h
        exact⟨by omega,by omega,by rw[HX.out];omega,by rw[HX.out];omega,by rw[HX.out];exact h⟩)
       go_wp2_with fail
       go_quiet (fail)
       have hbN:=zka (B:=wr.heap.size) wr nq
       go_wp2_with fail
       refine bodyPost_ret (v:= .tuple #[.int .i64 m.length, .int .i64 x.length, .bool true]) (by simp[results,Tryz.results211,go_sem]) rfl ⟨?_,zaa hb hbN⟩
       rw[if_pos HG.out,HX.out]
theorem rshape_ok (va:Value) (a:List (List RF)) (n m:Nat) (w:World) (ha:zlw w va a) (hs:zqh a) (hn:a.length=n) (hm:cols a=m):
 Calls Tryz.prog 211 #[va] w fun e w'=>e= .returned (.tuple #[.int .i64 n, .int .i64 m, .bool true])/\Below w.heap.size w w':=
 (rshape_any va a w ha).mono fun e w' ⟨h1,h2⟩=>⟨by
  rw[if_pos hs]at h1
  subst hn hm
  exact h1,h2⟩
set_option maxHeartbeats 1600000 in
theorem cmp_frac (va vb:Value) (s t:Bool) (n d m e:Nat) (w:World) (ha:zdc w va s n d) (hb:zdc w vb t m e) (h1:okN n d) (h2:okN m e):
 Calls Tryz.prog 130 #[va,vb] w fun en w'=>en= .returned (.tuple #[.int .i64 (zsr (fq s n d) (fq t m e)), .int .i64 0])/\Below w.heap.size w w':=by
 have hA:=ha
 have hB:=hb
 obtain⟨xn,xd,rfl,hxn,hxd⟩:=ha
 obtain⟨yn,yd,rfl,hyn,hyd⟩:=hb
 obtain⟨an,ln,kn,rfl,_⟩:=hxn.slen.1
 obtain⟨ad,ld,kd,rfl,_⟩:=hxd.slen.1
 obtain⟨am,lm,km,rfl,_⟩:=hyn.slen.1
 obtain⟨ae,le,ke,rfl,_⟩:=hyd.slen.1
 have K1:=zH h1
 have K2:=zH h2
 have HR:=zH (cmpR_eq s t n d m e h1.1 h2.1)
 clear h1 h2
 go_enter Tryz.func130,Tryz.ntmps130
 go_wp2_with fail
 obtain⟨W,hW⟩:∃W,W=((w.alloc (.cells #[.bool s, .slice an ln kn, .slice ad ld kd] 38)).alloc (.cells #[.bool t, .slice am lm km, .slice ae le ke] 38)):=⟨_,rfl⟩
 obtain⟨bx,byy,hbw⟩:=zcf w 38 _ _ _ _ _ _ W hW
 rw[<-hW]
 clear hW
 have HBX:=zH bx
 have HBY:=zH byy
 obtain⟨_,q1,q2,q3,q4,q5,q6⟩:=bx
 obtain⟨_,r1,r2,r3,r4,r5,r6⟩:=byy
 go_wp2_with (first
  |(go_at_call 79;first
    |((with_reducible refine(zrd _ s n d _ (hA.below hbw) K1.out).mono ?_);rintro e9 w1 ⟨rfl,hv1⟩
      obtain⟨_,f1,f2,f3,f4,f5,f6⟩:=HBY.out.belowS hv1
      have hbw1:=zaa hbw hv1)
    |((with_reducible refine(zrd _ t m e _ (hB.below hbw1) K2.out).mono ?_);rintro e9 w2 ⟨rfl,hv2⟩
      have hbx2:=(HBX.out.belowS hv1).belowS hv2
      have hby2:=(HBY.out.belowS hv1).belowS hv2
      have hbw2:=zaa hbw1 hv2)))
 clear q1 q2 q3 q4 q5 q6 r1 r2 r3 r4 r5 r6 f1 f2 f3 f4 f5 f6
 have hd2:=zja (B:=w2.heap.size) w2
 have hD:=hbw2.trans (hd2.mono hbw2.size)
 have hbx3:=hbx2.belowS hd2
 have hby3:=hby2.belowS hd2
 clear hbx2 hby2 hbw2 hv1 hv2 hbw hbw1 HBX HBY hd2
 have HX3:=zH hbx3
 have HY3:=zH hby3
 obtain⟨_,q1,q2,q3,q4,q5,q6⟩:=hbx3
 obtain⟨_,r1,r2,r3,r4,r5,r6⟩:=hby3
 have g1:=hxn.below hD
 have g2:=hxd.below hD
 have g3:=hyn.below hD
 have g4:=hyd.below hD
 have l1:=zH (zrc K1.out)
 have l2:=zH (zrc K2.out)
 have T1:=zH (zLT l1.out.1 (show 128<=256 by decide))
 have T2:=zH (zLT l2.out.2 (show 128<=256 by decide))
 have T3:=zH (zLT l2.out.1 (show 128<=256 by decide))
 have T4:=zH (zLT l1.out.2 (show 128<=256 by decide))
 have tok1:True:=trivial
 go_region_held3 (fun w'=>w'.cell? ⟨w.heap.size,1,none⟩=some (.slice an ln kn)/\w'.cell? ⟨w.heap.size,2,none⟩=some (.slice ad ld kd)/\w'.cell? ⟨w.heap.size+1,1,none⟩=some (.slice am lm km)/\w'.cell? ⟨w.heap.size+1,2,none⟩=some (.slice ae le ke)) (exact⟨q2,q3,r2,r3⟩) (first
  |(go_at_call 157;have _t:=tok1;clear tok1 _t;(with_reducible refine(zgb _ _ n e _ g1 g4 T1.out T2.out).mono ?_);rintro e9 w3 ⟨p1,rfl,hp1,hp2⟩
    have X4:=HX3.out.belowS hp2
    have Y4:=HY3.out.belowS hp2
    have HX4:=zH X4
    have HY4:=zH Y4
    obtain⟨_,q1,q2,q3,q4,q5,q6⟩:=X4
    obtain⟨_,r1,r2,r3,r4,r5,r6⟩:=Y4)
  |(go_at_call 157;(with_reducible refine(zgb _ _ m d _ (g3.below hp2) (g2.below hp2) T3.out T4.out).mono ?_);rintro e9 w4 ⟨p3,rfl,hp3,hp4⟩
    have hp24:=zaa hp2 hp4
    have hp14:=hp1.below hp4
    have X5:=HX4.out.belowS hp4
    have Y5:=HY4.out.belowS hp4
    have HX5:=zH X5
    have HY5:=zH Y5
    obtain⟨_,q1,q2,q3,q4,q5,q6⟩:=X5
    obtain⟨_,r1,r2,r3,r4,r5,r6⟩:=Y5)
  |(go_at_call 159;(with_reducible refine(ztl p1 p3 (n*e) (m*d) _ hp14.nat hp3.nat).mono ?_);rintro e9 w5 ⟨rfl,k9,rfl⟩
    have hp5:=zka (B:=w4.heap.size) w4 k9
    have hp26:=zaa hp24 hp5
    have X6:=HX5.out.belowS hp5
    have Y6:=HY5.out.belowS hp5
    have HX6:=zH X6
    have HY6:=zH Y6
    obtain⟨_,q1,q2,q3,q4,q5,q6⟩:=X6
    obtain⟨_,r1,r2,r3,r4,r5,r6⟩:=Y6))
 have hdw:Below w.heap.size w (w4.drewN k9):=hD.trans (hp26.mono hD.size)
 clear q1 q2 q3 q4 q5 q6 r1 r2 r3 r4 r5 r6 hp5 hp26 hp24 hp14 hp1 hp3 hp2 hp4 hD g1 g2 g3 g4 HX3 HY3 HX4 HY4 HX5 HY5 T1 T2 T3 T4
 generalize w4.drewN k9=W4 at *
 have hcb: -1<=zfj (n*e) (m*d)/\zfj (n*e) (m*d)<=1:=by unfold zfj;split<;>(try split)<;>omega
 obtain⟨hcb1,hcb2⟩:=hcb
 generalize hcn:zfj (n*e) (m*d)=c at *
 have HCN:=zH hcn
 clear hcn
 have hd2:=zja (B:=W4.heap.size) W4
 have hD:=hdw.trans (hd2.mono hdw.size)
 have hbx3:=HX6.out.belowS hd2
 have hby3:=HY6.out.belowS hd2
 have HX7:=zH hbx3
 have HY7:=zH hby3
 clear HX6 HY6
 go_wp2_with fail
 obtain⟨_,q1,q2,q3,q4,q5,q6⟩:=hbx3
 obtain⟨_,r1,r2,r3,r4,r5,r6⟩:=hby3
 rcases s with _ | _<;>rcases t with _ | _
 ·go_region
  all_goals
   go_wp2
   all_goals
    go_ret2
    exact⟨by rw[HR.out];simp[*],hD⟩
 ·go_region_law (refine zxa 186 #[.agg #[.bool true, .slice am lm km, .slice ae le ke]] ?_ ?_ (zih _ true m e _ (hB.below hD)) ?_;go_simp;go_simp;rintro e9 w5 ⟨rfl,hz1⟩;refine⟨_,rfl,?_⟩;obtain⟨_,q1,q2,q3,q4,q5,q6⟩:=HX7.out.belowS hz1;obtain⟨_,r1,r2,r3,r4,r5,r6⟩:=HY7.out.belowS hz1)
  all_goals
   go_wp2
   all_goals
    go_ret2
    exact⟨by rw[HR.out];simp[*],hD.trans (hz1.mono hD.size)⟩
 ·go_region_law (refine zxa 186 #[.agg #[.bool true, .slice an ln kn, .slice ad ld kd]] ?_ ?_ (zih _ true n d _ (hA.below hD)) ?_;go_simp;go_simp;rintro e9 w5 ⟨rfl,hz1⟩;refine⟨_,rfl,?_⟩;obtain⟨_,q1,q2,q3,q4,q5,q6⟩:=HX7.out.belowS hz1;obtain⟨_,r1,r2,r3,r4,r5,r6⟩:=HY7.out.belowS hz1)
  all_goals
   go_wp2
   all_goals
    go_ret2
    exact⟨by rw[HR.out];simp[*],hD.trans (hz1.mono hD.size)⟩
 ·go_region_held3 (fun w'=>w'.cell? ⟨w.heap.size,0,none⟩=some (.bool true)/\w'.cell? ⟨w.heap.size,1,none⟩=some (.slice an ln kn)/\w'.cell? ⟨w.heap.size,2,none⟩=some (.slice ad ld kd)/\w'.cell? ⟨w.heap.size+1,0,none⟩=some (.bool true)/\w'.cell? ⟨w.heap.size+1,1,none⟩=some (.slice am lm km)/\w'.cell? ⟨w.heap.size+1,2,none⟩=some (.slice ae le ke)) (exact⟨q1,q2,q3,r1,r2,r3⟩) (first
  |(go_at_call 186;(with_reducible refine(zih _ true n d _ (hA.below hD)).mono ?_);rintro e9 w5 ⟨rfl,hz1⟩
    have X8:=HX7.out.belowS hz1
    have Y8:=HY7.out.belowS hz1
    have HX8:=zH X8
    have HY8:=zH Y8
    obtain⟨_,q1,q2,q3,q4,q5,q6⟩:=X8
    obtain⟨_,r1,r2,r3,r4,r5,r6⟩:=Y8)
  |(go_at_call 186;(with_reducible refine(zih _ true m e _ ((hB.below hD).below hz1)).mono ?_);rintro e9 w6 ⟨rfl,hz2⟩
    have X9:=HX8.out.belowS hz2
    have Y9:=HY8.out.belowS hz2
    obtain⟨_,q1,q2,q3,q4,q5,q6⟩:=X9
    obtain⟨_,r1,r2,r3,r4,r5,r6⟩:=Y9))
  all_goals
   go_wp2
   all_goals
    go_ret2
    exact⟨by rw[HR.out];simp[*],hD.trans ((zaa hz1 hz2).mono hD.size)⟩
set_option maxHeartbeats 800000
theorem zdr (w:World):Calls Tryz.prog 109 #[.int .i64 0] w (RF1 w 0):=by
 go_enter Tryz.func109,Tryz.ntmps109
 go_wp2_with (go_at_call 67;(with_reducible refine(zwy _).mono ?_);rintro e w1 ⟨v,rfl,hv,hb1⟩
              obtain⟨t9,x9,y9,rfl,⟨a1,l91,k1,rfl,_⟩,⟨a2,l92,k2,rfl,_⟩⟩:=hv.isF
              have hr:=((C3.new w 38 (.bool false) (.slice none 0 0) (.slice none 0 0)).belowS hb1).allocS (.cells #[.bool t9, .slice a1 l91 k1, .slice a2 l92 k2] 38)
              have hv2:=hv.below (zca w1 (.cells #[.bool t9, .slice a1 l91 k1, .slice a2 l92 k2] 38))
              have hb2:=zaa (zaa (zca w (.cells #[.bool false, .slice none 0 0, .slice none 0 0] 38)) hb1) (zca w1 (.cells #[.bool t9, .slice a1 l91 k1, .slice a2 l92 k2] 38))
              have HR:=zH hr
              obtain⟨_,d1,d2,d3,d4,d5,d6⟩:=hr)
 refine zab rfl rfl Tryz.aggF Tryz.sizeF (HR.out.set _ _ _) rfl ?_
 exact⟨_,rfl,hv2.set3 HR.out (fun z=>by simp) (fun z=>by simp) _ _ _,zga hb2 (zLR _) _ _ _⟩
theorem zqs (w:World):Calls Tryz.prog 109 #[.int .i64 1] w (RF1 w 1):=by
 go_enter Tryz.func109,Tryz.ntmps109
 go_wp2_with (go_at_call 67;(with_reducible refine(make_11 _).mono ?_);rintro e w1 ⟨v,rfl,hv,hb1⟩
              obtain⟨t9,x9,y9,rfl,⟨a1,l91,k1,rfl,_⟩,⟨a2,l92,k2,rfl,_⟩⟩:=hv.isF
              have hr:=((C3.new w 38 (.bool false) (.slice none 0 0) (.slice none 0 0)).belowS hb1).allocS (.cells #[.bool t9, .slice a1 l91 k1, .slice a2 l92 k2] 38)
              have hv2:=hv.below (zca w1 (.cells #[.bool t9, .slice a1 l91 k1, .slice a2 l92 k2] 38))
              have hb2:=zaa (zaa (zca w (.cells #[.bool false, .slice none 0 0, .slice none 0 0] 38)) hb1) (zca w1 (.cells #[.bool t9, .slice a1 l91 k1, .slice a2 l92 k2] 38))
              have HR:=zH hr
              obtain⟨_,d1,d2,d3,d4,d5,d6⟩:=hr)
 refine zab rfl rfl Tryz.aggF Tryz.sizeF (HR.out.set _ _ _) rfl ?_
 exact⟨_,rfl,hv2.set3 HR.out (fun z=>by simp) (fun z=>by simp) _ _ _,zga hb2 (zLR _) _ _ _⟩
theorem zer (v:Value) (s:Bool) (n d:Nat) (w:World) (h:zdc w v s n d):
 Calls Tryz.prog 145 #[v] w fun e w'=>e= .returned (.bool (!s&& !decide (n=0)))/\Below w.heap.size w w':=by
 obtain⟨a,b,rfl,ha,hb⟩:=h
 rcases s with _ | _
 ·go_enter Tryz.func145,Tryz.ntmps145
  go_wp2_with (go_at_call 156;refine(zva _ n _ (ha.below (zca _ _))).mono ?_;rintro e w' ⟨rfl,rfl⟩)
  go_ret
  refine⟨?_,zca _ _⟩
  have e:decide ((0:Int)<(zua n:Nat))= !decide (n=0):=by
   by_cases h0:n=0
   ·subst h0;rfl
   ·have:=zld.2 h0;rw[decide_eq_true (by omega),decide_eq_false h0];rfl
  first | (rw[show(!false&& !decide (n=0))=decide ((0:Int)<(zua n:Nat))from by rw[e];rfl];rfl) | (simp[<-e])
 ·go_enter Tryz.func145,Tryz.ntmps145
  go_wp2_with fail
  go_ret
  exact⟨rfl,zca _ _⟩
set_option maxHeartbeats 3200000
theorem zzq (va:Value) (m:List (List RF)) (w:World) (ha:zlw w va m) (hok:∀l∈m,∀x∈l,x.ok) (hl:∀l∈m,l.length<=65536) (hm:m.length<=65536):
 Calls Tryz.prog 146 #[va] w fun e w'=>e= .returned (.int .i64 (zxr m))/\Below w.heap.size w w':=by
 have sa:=ha.sl
 have la:=ha.len
 have HOK:=zH hok
 have HL:=zH hl
 clear hok hl
 go_enter Tryz.func146,Tryz.ntmps146
 go_wp2_with fail
 go_loopw [3,13] (fun u3 u13 wr=>∃ (k:Nat),k<=m.length/\u13= .int .i64 k/\u3= .int .i64 (zxr (m.take k))/\Below w.heap.size w wr) (fun _ u13 _=>m.length- (intOf u13).toNat)
 case atStart=>exact⟨0,zZL _,rfl,rfl,Below.refl _ _⟩
 case round=>
  obtain⟨k,hk,rfl,rfl,hb⟩:=hrel
  by_cases hkm:k<m.length
  ·obtain⟨rv,hrc,hrv⟩:=(ha.below hb).at' k hkm
   have hW:zxr (m.take k)<=536870912*65536:=by
    have h1:=zit (m.take k) (fun l h=>HOK.out l (List.mem_of_mem_take h)) (fun l h=>HL.out l (List.mem_of_mem_take h))
    rw[List.length_take]at h1;omega
   have hlk:=HL.out m[k] (zGM hkm)
   have HOKL:=zH (HOK.out m[k] (zGM hkm))
   have HTM:=zH (zht m k hkm)
   generalize m[k]'hkm=l at *
   generalize zxr (m.take k)=W0 at *
   have srv:=hrv.sl
   have lrv:=hrv.len
   obtain⟨wo,rfl⟩:∃wo:World,wo=wr:=⟨_,rfl⟩
   go_wp2_with fail
   go_loopw [3,19] (fun u3 u19 wi=>∃ (j:Nat),j<=l.length/\u19= .int .i64 j/\u3= .int .i64 ((W0+wts (qs (l.take j)):Nat):Int)/\Below wo.heap.size wo wi) (fun _ u19 _=>l.length- (intOf u19).toNat)
   case atStart=>exact⟨0,zZL _,rfl,by simp[qs,wts],Below.refl _ _⟩
   case round=>
    obtain⟨j,hj,rfl,rfl,hbi⟩:=hrel
    by_cases hjl:j<l.length
    ·obtain⟨xa,xb,c1,c2,c3,hxa,hxb⟩:=(hrv.below hbi).at' j hjl
     obtain⟨c1a,c1l,c1k,rfl,_⟩:=hxa.slen.1
     obtain⟨c2a,c2l,c2k,rfl,_⟩:=hxb.slen.1
     have HX:=zH (HOKL.out l[j] (zGM hjl))
     have HTS:=zH (wts_qs l j hjl)
     have hWj:wts (qs (l.take j))<=8192*65536:=by
      have h1:=zgt (l.take j) (fun x h=>HOKL.out x (List.mem_of_mem_take h))
      rw[List.length_take]at h1;omega
     generalize l[j]'hjl=x at *
     generalize wts (qs (l.take j))=W1 at *
     have hA:zdc (wr.alloc (.cells #[.bool x.neg, .slice c1a c1l c1k, .slice c2a c2l c2k] 38)) (.agg #[.bool x.neg, .slice c1a c1l c1k, .slice c2a c2l c2k]) x.neg x.n x.d:=⟨_,_,rfl,hxa.below (zca _ _),hxb.below (zca _ _)⟩
     have hb1:=zaa hbi (zca wr (.cells #[.bool x.neg, .slice c1a c1l c1k, .slice c2a c2l c2k] 38))
     obtain⟨hf1,hf2⟩:=RF.fits HX.out
     have hn0:=zld (n:=x.q.num.natAbs)
     have hd1:=zse (n:=x.q.den)
     have hd0:=x.q.den_nz
     obtain⟨bn,hbn⟩:∃bn,zua x.q.num.natAbs=bn:=⟨_,rfl⟩
     obtain⟨bd,hbd⟩:∃bd,zua x.q.den=bd:=⟨_,rfl⟩
     rw[hbn]at hf1 hn0
     rw[hbd]at hf2 hd1
     have HBN:=zH hbn
     have HBD:=zH hbd
     clear hbn hbd hxa hxb
     by_cases hz:x.q.num=0
     ·have hbz:bn=0:=by have:=hn0.1;omega
      have HW:=zH (wt_zero hz)
      subst hbz
      clear hz hn0 hd1 hd0
      go_wp2_with (first
       |(go_at_call 89;(with_reducible refine(zok _ x _ hA HX.out).mono ?_);rintro e w7 ⟨v,rfl,hv,hb7⟩
         obtain⟨xa2,xb2,rfl,hxa2,hxb2⟩:=hv
         obtain⟨y1,y2,y3,rfl,_⟩:=hxa2.v.sl
         obtain⟨y4,y5,y6,rfl,_⟩:=hxb2.v.sl
         have hxa3:=(hxa2.below (zca w7 (.cells #[.bool (decide (x.q<0)), .slice y1 y2 y3, .slice y4 y5 y6] 38))).nat
         have hxb3:=(hxb2.below (zca w7 (.cells #[.bool (decide (x.q<0)), .slice y1 y2 y3, .slice y4 y5 y6] 38))).nat
         have hb8:=zaa (zaa hb1 hb7) (zca w7 (.cells #[.bool (decide (x.q<0)), .slice y1 y2 y3, .slice y4 y5 y6] 38)))
       |(go_at_call 156;first
         |((with_reducible refine(zva _ _ _ hxa3).mono ?_);rintro e w' ⟨rfl,rfl⟩;rw[HBN.out])
         |((with_reducible refine(zva _ _ _ hxb3).mono ?_);rintro e w' ⟨rfl,rfl⟩;rw[HBD.out])))
      go_roundw
      case rel=>exact⟨j+1,hjl,by go_num,by rw[HTS.out,HW.out];go_num,hb8⟩
      case measure=>simp[intOf];omega
     ·have hbz:0<bn:=hn0.2 (by omega)
      have hbz2:(((bn:Nat):Int)==0)=false:=by simp;omega
      by_cases hd:x.q.den=1
      ·have HW:=zH (wt_int hz hd)
       have hbd1:¬1<bd:=fun h=>by have:=hd1.1 h;omega
       clear hz hn0 hd1 hd0 hd
       go_wp2_with (first
        |(go_at_call 89;(with_reducible refine(zok _ x _ hA HX.out).mono ?_);rintro e w7 ⟨v,rfl,hv,hb7⟩
          obtain⟨xa2,xb2,rfl,hxa2,hxb2⟩:=hv
          obtain⟨y1,y2,y3,rfl,_⟩:=hxa2.v.sl
          obtain⟨y4,y5,y6,rfl,_⟩:=hxb2.v.sl
          have hxa3:=(hxa2.below (zca w7 (.cells #[.bool (decide (x.q<0)), .slice y1 y2 y3, .slice y4 y5 y6] 38))).nat
          have hxb3:=(hxb2.below (zca w7 (.cells #[.bool (decide (x.q<0)), .slice y1 y2 y3, .slice y4 y5 y6] 38))).nat
          have hb8:=zaa (zaa hb1 hb7) (zca w7 (.cells #[.bool (decide (x.q<0)), .slice y1 y2 y3, .slice y4 y5 y6] 38)))
        |(go_at_call 156;first
          |((with_reducible refine(zva _ _ _ hxa3).mono ?_);rintro e w' ⟨rfl,rfl⟩;rw[HBN.out])
          |((with_reducible refine(zva _ _ _ hxb3).mono ?_);rintro e w' ⟨rfl,rfl⟩;rw[HBD.out])))
       go_roundw
       case rel=>exact⟨j+1,hjl,by go_num,by rw[HTS.out,HW.out,HBN.out];go_num,hb8⟩
       case measure=>simp[intOf];omega
      ·have HW:=zH (wt_frac hz hd)
       have hbd1:1<bd:=hd1.2 (by omega)
       clear hz hn0 hd1 hd0 hd
       go_wp2_with (first
        |(go_at_call 89;(with_reducible refine(zok _ x _ hA HX.out).mono ?_);rintro e w7 ⟨v,rfl,hv,hb7⟩
          obtain⟨xa2,xb2,rfl,hxa2,hxb2⟩:=hv
          obtain⟨y1,y2,y3,rfl,_⟩:=hxa2.v.sl
          obtain⟨y4,y5,y6,rfl,_⟩:=hxb2.v.sl
          have hxa3:=(hxa2.below (zca w7 (.cells #[.bool (decide (x.q<0)), .slice y1 y2 y3, .slice y4 y5 y6] 38))).nat
          have hxb3:=(hxb2.below (zca w7 (.cells #[.bool (decide (x.q<0)), .slice y1 y2 y3, .slice y4 y5 y6] 38))).nat
          have hb8:=zaa (zaa hb1 hb7) (zca w7 (.cells #[.bool (decide (x.q<0)), .slice y1 y2 y3, .slice y4 y5 y6] 38)))
        |(go_at_call 156;first
          |((with_reducible refine(zva _ _ _ hxa3).mono ?_);rintro e w' ⟨rfl,rfl⟩;rw[HBN.out])
          |((with_reducible refine(zva _ _ _ hxb3).mono ?_);rintro e w' ⟨rfl,rfl⟩;rw[HBD.out])))
       go_roundw
       case rel=>exact⟨j+1,hjl,by go_num,by rw[HTS.out,HW.out,HBN.out,HBD.out];go_num,hb8⟩
       case measure=>simp[intOf];omega
    ·obtain rfl:j=l.length:=by omega
     rw[List.take_length]
     go_wp2_with fail
     go_roundw
     case rel=>exact⟨k+1,hkm,by go_num,by rw[HTM.out],hb.trans (hbi.mono hb.size)⟩
     case measure=>simp[intOf];omega
  ·obtain rfl:k=m.length:=by omega
   rw[List.take_length]
   go_wp2_with fail
   go_ret
   exact⟨rfl,hb⟩
def zyq (x:RF):Prop:=x.ok/\¬x.q<0/\zda x.q.num.natAbs<=4/\zda x.q.den<=4
instance (x :RF):Decidable (zyq x):=inferInstanceAs (Decidable (_/\_/\_/\_))
def zlr (l:List RF) (n:Nat):Prop:=(∀x∈l,zyq x)/\l.length=n/\wts (qs l)<=3800
instance (l :List RF) (n:Nat):Decidable (zlr l n):=inferInstanceAs (Decidable (_/\_/\_))
theorem zks (va:Value) (l:List RF) (n:Nat) (w:World) (ha:zni w va l) (hn:n<=65536):
 Calls Tryz.prog 144 #[va, .int .i64 n] w fun e w'=>e= .returned (.bool (decide (zlr l n)))/\Below w.heap.size w w':=by
 have sa:=ha.sl
 have la:=ha.len
 have hle:=sa.le
 rw[la]at hle
 have hlb:l.length<=9223372036854775807:=by omega
 clear hle
 go_enter Tryz.func144,Tryz.ntmps144
 go_wp2_with fail
 go_loopw [11] (fun u11 wr=>∃ (k:Nat),k<=l.length/\u11= .int .i64 k/\(∀x∈l.take k,zyq x)/\Below w.heap.size w wr) (fun u11 _=>l.length- (intOf u11).toNat)
 case atStart=>exact⟨0,zZL _,rfl,by simp,Below.refl _ _⟩
 case round=>
  obtain⟨k,hk,rfl,hpl,hb⟩:=hrel
  have HPL:=zH hpl
  clear hpl
  by_cases hkl:k<l.length
  ·obtain⟨xa,xb,c1,c2,c3,hxa,hxb⟩:=(ha.below hb).at' k hkl
   obtain⟨c1a,c1l,c1k,rfl,_⟩:=hxa.slen.1
   obtain⟨c2a,c2l,c2k,rfl,_⟩:=hxb.slen.1
   have HBADx:Hid (¬zyq l[k]->¬zlr l n):=zH (fun h h'=>h (h'.1 _ (zGM hkl)))
   have HNEXT:Hid (zyq l[k]->∀x∈l.take (k+1),zyq x):=zH (fun h x hx=>by
    rw[zxc l k hkl,List.mem_append,List.mem_singleton]at hx
    rcases hx with hx | rfl
    ·exact HPL.out x hx
    ·exact h)
   generalize l[k]'hkl=x at *
   have hA:zdc (wr.alloc (.cells #[.bool x.neg, .slice c1a c1l c1k, .slice c2a c2l c2k] 38)) (.agg #[.bool x.neg, .slice c1a c1l c1k, .slice c2a c2l c2k]) x.neg x.n x.d:=⟨_,_,rfl,hxa.below (zca _ _),hxb.below (zca _ _)⟩
   have hb1:=zaa hb (zca wr (.cells #[.bool x.neg, .slice c1a c1l c1k, .slice c2a c2l c2k] 38))
   clear hxa hxb
   by_cases hx:x.ok
   ·have HX:=zH hx
    clear hx
    by_cases h1:x.q<0
    ·have HBAD:=zH (HBADx.out (fun h=>h.2.1 h1))
     have hd1:decide (x.q<0)=true:=decide_eq_true h1
     clear h1
     go_wp2_with (go_at_call 89;(with_reducible refine(zok _ x _ hA HX.out).mono ?_);rintro e w7 ⟨v,rfl,hv,hb7⟩
                  obtain⟨xa2,xb2,rfl,hxa2,hxb2⟩:=hv
                  have z1:slen xa2=zda x.q.num.natAbs:=hxa2.v.len
                  have z2:slen xb2=zda x.q.den:=hxb2.v.len
                  obtain⟨y1,y2,y3,rfl,_⟩:=hxa2.v.sl
                  obtain⟨y4,y5,y6,rfl,_⟩:=hxb2.v.sl
                  have z3:y2=zda x.q.num.natAbs:=z1
                  have z4:y5=zda x.q.den:=z2
                  subst z3 z4
                  clear z1 z2
                  have hb8:=fun o=>zaa (zaa hb1 hb7) (zca w7 o))
     go_ret
     exact⟨by rw[decide_eq_false HBAD.out];rfl,hb8 _⟩
    ·have hd1:decide (x.q<0)=false:=decide_eq_false h1
     have H1:=zH h1
     clear h1
     by_cases h2:4<zda x.q.num.natAbs
     ·have HBAD:=zH (HBADx.out (fun h=>by have:=h.2.2.1;omega))
      go_wp2_with (go_at_call 89;(with_reducible refine(zok _ x _ hA HX.out).mono ?_);rintro e w7 ⟨v,rfl,hv,hb7⟩
                   obtain⟨xa2,xb2,rfl,hxa2,hxb2⟩:=hv
                   have z1:slen xa2=zda x.q.num.natAbs:=hxa2.v.len
                   have z2:slen xb2=zda x.q.den:=hxb2.v.len
                   obtain⟨y1,y2,y3,rfl,_⟩:=hxa2.v.sl
                   obtain⟨y4,y5,y6,rfl,_⟩:=hxb2.v.sl
                   have z3:y2=zda x.q.num.natAbs:=z1
                   have z4:y5=zda x.q.den:=z2
                   subst z3 z4
                   clear z1 z2
                   have hb8:=fun o=>zaa (zaa hb1 hb7) (zca w7 o))
      go_ret
      exact⟨by rw[decide_eq_false HBAD.out];rfl,hb8 _⟩
     ·by_cases h3:4<zda x.q.den
      ·have HBAD:=zH (HBADx.out (fun h=>by have:=h.2.2.2;omega))
       go_wp2_with (go_at_call 89;(with_reducible refine(zok _ x _ hA HX.out).mono ?_);rintro e w7 ⟨v,rfl,hv,hb7⟩
                    obtain⟨xa2,xb2,rfl,hxa2,hxb2⟩:=hv
                    have z1:slen xa2=zda x.q.num.natAbs:=hxa2.v.len
                    have z2:slen xb2=zda x.q.den:=hxb2.v.len
                    obtain⟨y1,y2,y3,rfl,_⟩:=hxa2.v.sl
                    obtain⟨y4,y5,y6,rfl,_⟩:=hxb2.v.sl
                    have z3:y2=zda x.q.num.natAbs:=z1
                    have z4:y5=zda x.q.den:=z2
                    subst z3 z4
                    clear z1 z2
                    have hb8:=fun o=>zaa (zaa hb1 hb7) (zca w7 o))
       go_ret
       exact⟨by rw[decide_eq_false HBAD.out];rfl,hb8 _⟩
      ·have HGOOD:=zH (HNEXT.out ⟨HX.out,H1.out,by omega,by omega⟩)
       go_wp2_with (go_at_call 89;(with_reducible refine(zok _ x _ hA HX.out).mono ?_);rintro e w7 ⟨v,rfl,hv,hb7⟩
                    obtain⟨xa2,xb2,rfl,hxa2,hxb2⟩:=hv
                    have z1:slen xa2=zda x.q.num.natAbs:=hxa2.v.len
                    have z2:slen xb2=zda x.q.den:=hxb2.v.len
                    obtain⟨y1,y2,y3,rfl,_⟩:=hxa2.v.sl
                    obtain⟨y4,y5,y6,rfl,_⟩:=hxb2.v.sl
                    have z3:y2=zda x.q.num.natAbs:=z1
                    have z4:y5=zda x.q.den:=z2
                    subst z3 z4
                    clear z1 z2
                    have hb8:=fun o=>zaa (zaa hb1 hb7) (zca w7 o))
       go_roundw
       case rel=>exact⟨k+1,hkl,by go_num,HGOOD.out,hb8 _⟩
       case measure=>simp[intOf];omega
   ·have HX:=zH hx
    have HBAD:=zH (HBADx.out (fun h=>hx h.1))
    clear hx
    go_wp2_with (go_at_call 89;(with_reducible refine(zef _ x.neg x.n x.d _ hA).mono ?_);rintro e w7 ⟨v,er,rfl,hb7,_,hv⟩
                 obtain⟨rfl,hvz⟩:=hv HX.out
                 have hvz2:v= .agg #[.bool false, .slice none 0 0, .slice none 0 0]:=hvz
                 clear hvz
                 subst hvz2
                 have hb8:=fun o=>zaa (zaa hb1 hb7) (zca w7 o))
    go_ret
    exact⟨by rw[decide_eq_false HBAD.out];rfl,hb8 _⟩
  ·obtain rfl:k=l.length:=by omega
   have hpl:=HPL.out
   rw[List.take_length]at hpl
   by_cases hln:l.length=n
   ·have hlb2:l.length<=65536:=by omega
    obtain⟨av,al,ak,rfl,_⟩:=ha.sl
    have e9:al=l.length:=la
    subst e9
    have HD:Hid (decide (zlr l n)=decide (((wts (qs l):Nat):Int)<=3800)):=zH (by
     by_cases h:wts (qs l)<=3800
     ·rw[decide_eq_true (show zlr l n from⟨hpl,hln,h⟩),decide_eq_true (by omega)]
     ·rw[decide_eq_false (fun h':zlr l n=>h h'.2.2),decide_eq_false (by omega)])
    have HOK:Hid (∀l'∈ [l],∀x∈l',x.ok):=zH (fun l' h x hx=>by simp at h;subst h;exact(hpl x hx).1)
    have HLL:Hid (∀l'∈ [l],l'.length<=65536):=zH (fun l' h=>by simp at h;subst h;exact hlb2)
    have HM:Hid (zlw (wr.alloc (.cells #[.slice av l.length ak] 25)) (.slice (some ⟨wr.heap.size,0,none⟩) 1 1) [l]):=zH ⟨⟨_,1,1,rfl,zLR _,by simp[maxLen],fun e=>by cases e⟩,rfl,fun j hj=>by
     have hj0:j=0:=by simp at hj;omega
     subst hj0
     exact⟨_,by simp[ptr,base,Addr.add],(ha.below hb).below (zca _ _)⟩⟩
    have hb2:=zaa hb (zca wr (.cells #[.slice av l.length ak] 25))
    have hlnb:(((l.length:Nat):Int)==(n:Nat))=true:=by simp[hln]
    have HW1:=zH (zhr l)
    have HLEN:Hid ([l].length<=65536):=zH (by simp)
    clear hpl hln
    go_wp2_with (go_at_call 146;(with_reducible refine(zzq _ [l] _ HM.out HOK.out HLL.out HLEN.out).mono ?_);rintro e w3 ⟨rfl,hb3⟩;rw[HW1.out])
    go_ret
    exact⟨by rw[HD.out];rfl,zaa hb2 hb3⟩
   ·have HBAD:Hid (¬zlr l n):=zH (fun h=>hln h.2.1)
    have hlnb:(((l.length:Nat):Int)==(n:Nat))=false:=by simp;omega
    clear hln hpl
    go_wp2_with fail
    go_ret
    exact⟨by rw[decide_eq_false HBAD.out];rfl,hb⟩
end Go.Proofs.YtlpdkbmmbdfoiaaGreat
