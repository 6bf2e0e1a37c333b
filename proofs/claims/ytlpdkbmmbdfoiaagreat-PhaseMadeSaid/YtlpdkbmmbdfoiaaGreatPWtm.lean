/- Lemmas. -/
import Derived.Test.YtlpdkbmmbdfoiaaGreatPEl3
set_option linter.unusedVariables false
set_option linter.unusedSimpArgs false
namespace Go.Proofs.YtlpdkbmmbdfoiaaGreat
open Go.RowKit
structure MkR (w:World) (B:Nat) (v:Value) (rs:List Value) (c:Nat) (A:Mx):Prop where
 ra:zkc w 25 B 1 v rs.length rs
 rows:∀ (j:Nat) (h:j<rs.length),zua w 38 B rs[j] (zxa c (A j))
 sz:B<=w.heap.size
section
variable {w w':World} {B c:Nat} {v v' r:Value} {rs:List Value} {A:Mx}
theorem MkR.bw (h:MkR w B v rs c A) (hb:Below w.heap.size w w'):MkR w' B v rs c A:=
 ⟨h.ra.moves (zkb.bw (B:=B) hb) (zLR _),λ j hj=>(h.rows j hj).moves (zkb.bw (B:=B) hb) (zLR _),zLT h.sz hb.size⟩
theorem MkR.push (h:MkR w B v rs c A) (hr:zua w 38 B r (zxa c (A rs.length))) (hv:zkc w' 25 B 1 v' (rs++ [r]).length (rs++ [r])) (hg:w.grownBy w' v.ownBlock) (hn:zrb w v):
 MkR w' B v' (rs++ [r]) c A/\Below B w w':=by
 obtain⟨ra,rows,sz⟩:=h;have hb:Below B w w':=zja hg sz (λ k hk=>(ra.block k hk).1);refine⟨⟨hv,λ j h1=> ?_,zLT sz hb.size⟩,hb⟩;rcases zOG j rs.length with hj | hj
 ·rw[zAL hj];obtain⟨ys,y1,y2⟩:=id (rows j hj);exact(rows j hj).grown hg hn (y1.kinds ra zD)
 ·obtain rfl:j=rs.length:=by simp at h1;omega
  have e1:(rs++ [r])[rs.length]'h1=r:=by simp
  obtain⟨zs,z1,z2⟩:=id hr;rw[e1];exact hr.grown hg hn (z1.kinds ra zD)
theorem MkR.mat (h:MkR w B v rs c A):zij w v rs.length c A:=
 ⟨h.ra.sl,h.ra.len,λ i hi=>⟨rs[i],h.ra.cell i hi,(h.rows i hi).fracs⟩⟩
end
theorem kc2 {X Y:World} {a1 a2:Addr} {x1 x2:Value} (h:X.cell? a1=some x1/\X.cell? a2=some x2) (hb:Below X.heap.size X Y):Y.cell? a1=some x1/\Y.cell? a2=some x2:=⟨zba hb h.1,zba hb h.2⟩
set_option maxRecDepth 100000 in
set_option maxHeartbeats 3200000 in
theorem rshape_any (va:Value) (m:List (List RF)) (w:World) (ha:MatN w va m):
 Calls Tryz.prog 211 #[va] w (RShape w m):=by
 have sa:=ha.sl;have la:=ha.len;have hle:=sa.le;rw[la]at hle;have hlb:m.length<=9223372036854775807:=zO;clear hle;by_cases h1:m.length<1
 ·have HBAD:zI (¬zde m):=zH (λ h=>by have:=h.1;omega);go_enter Tryz.func211,Tryz.ntmps211;go_wp2_with fail;refine bodyPost_ret (v:= .tuple #[.int .i64 0, .int .i64 0, .bool false]) (by simp[results,Tryz.results211,go_sem]) rfl ⟨?_,zBR _ _⟩;rw[zIN HBAD.o]
 ·by_cases h2:24<m.length
  ·have HBAD:zI (¬zde m):=zH (λ h=>by have:=h.2.1;omega);go_enter Tryz.func211,Tryz.ntmps211;go_wp2_with fail;refine bodyPost_ret (v:= .tuple #[.int .i64 0, .int .i64 0, .bool false]) (by simp[results,Tryz.results211,go_sem]) rfl ⟨?_,zBR _ _⟩;rw[zIN HBAD.o]
  ·obtain⟨r0,hc0,hr0⟩:=ha.at' 0 zO
   have hd0:m.headD []=m[0]' zO:=by
    cases m with
    | nil=>simp at h1
    | cons a m=>rfl
   rw[<-hd0]at hr0;have sl0:=hr0.sl;have ln0:=hr0.len;obtain⟨x,hx⟩:∃x,m.headD []=x:=⟨_,rfl⟩;rw[hx]at hr0 ln0 hd0;have HX:=zH hx;have i0:0<m.length:=zO;clear hd0 hr0 hx h1;by_cases h3:x.length<1
   ·have HBAD:zI (¬zde m):=zH (λ h=>by have:=h.2.2.1;rw[HX.o]at this;omega);go_enter Tryz.func211,Tryz.ntmps211;go_wp2_with fail;refine bodyPost_ret (v:= .tuple #[.int .i64 0, .int .i64 0, .bool false]) (by simp[results,Tryz.results211,go_sem]) rfl ⟨?_,zBR _ _⟩;rw[zIN HBAD.o]
   ·by_cases h4:24<x.length
    ·have HBAD:zI (¬zde m):=zH (λ h=>by have:=h.2.2.2.1;rw[HX.o]at this;omega);go_enter Tryz.func211,Tryz.ntmps211;go_wp2_with fail;refine bodyPost_ret (v:= .tuple #[.int .i64 0, .int .i64 0, .bool false]) (by simp[results,Tryz.results211,go_sem]) rfl ⟨?_,zBR _ _⟩;rw[zIN HBAD.o]
    ·go_enter Tryz.func211,Tryz.ntmps211;go_wp2_with fail;go_loopw [5] (λ u5 wr=>∃ (k:Nat),k<=m.length/\u5= .int .i64 k/\(∀l∈m.take k,vecP l x.length)/\Below w.heap.size w wr) (λ u5 _=>m.length- (intOf u5).toNat);case atStart=>exact⟨0,zZL _,rfl,λ l h=>by simp at h,zBR _ _⟩
     case round=>
      obtain⟨k,hk,rfl,hok,hb⟩:=hrel;have HOK:=zH hok;have hc0:=zba hb hc0;clear hok;by_cases hkl:k<m.length
      ·obtain⟨rk,hrc,hrk⟩:=(ha.bw hb).at' k hkl;obtain⟨l,hl⟩:∃l,m[k]'hkl=l:=⟨_,rfl⟩;rw[hl]at hrk;have HMEM:zI (l∈m):=zH (by rw[<-hl];exact zGM hkl);have HTK:zI (m.take (k+1)=m.take k++ [l]):=zH (by rw[zxc m k hkl,hl]);have i1:x.length<=65536:=zO;clear hl;by_cases hv:vecP l x.length
       ·have HV:=zH hv;clear hv;go_wp2_with fail
        go_region_held3 (λ w'=>w'.cell? (ptr va k)=some rk/\w'.cell? (ptr va 0)=some r0) (first
         | exact⟨hrc,hc0⟩
         | with_reducible exact kc2 (by assumption) (by assumption)) (first
         |(go_at_call 212;(with_reducible refine(zlj _ l x.length _ (hrk.bw (by first | exact zfa _ | exact zBR _ _))).mono ?_);rw[zDT HV.o];rintro e w7 ⟨rfl,hb7⟩;have hb7:=(by first | exact zaa (zfa _) hb7 | exact hb7:Below wr.heap.size wr w7)))
        go_wp2_with fail;go_roundw
        case rel=>exact⟨k+1,hkl,by go_num,λ y hy=>by
         rw[HTK.o]at hy;rcases List.mem_append.1 hy with h | h
         ·exact HOK.o y h
         ·(have :y=l:=by simpa using h);rw[this];exact HV.o,zaa hb hb7⟩
        case measure=>simp[intOf];omega
       ·have HV:=zH hv;have HBAD:zI (¬zde m):=zH (λ h=>hv (by have:=h.2.2.2.2 l HMEM.o;rw[HX.o]at this;exact this));clear hv;go_wp2_with fail
        go_region_held3 (λ w'=>w'.cell? (ptr va k)=some rk/\w'.cell? (ptr va 0)=some r0) (first
         | exact⟨hrc,hc0⟩
         | with_reducible exact kc2 (by assumption) (by assumption)) (first
         |(go_at_call 212;(with_reducible refine(zlj _ l x.length _ (hrk.bw (by first | exact zfa _ | exact zBR _ _))).mono ?_);rw[zDF HV.o];rintro e w7 ⟨rfl,hb7⟩;have hb7:=(by first | exact zaa (zfa _) hb7 | exact hb7:Below wr.heap.size wr w7)))
        go_wp2_with fail;refine bodyPost_ret (v:= .tuple #[.int .i64 0, .int .i64 0, .bool false]) (by simp[results,Tryz.results211,go_sem]) rfl ⟨?_,zaa hb hb7⟩;rw[zIN HBAD.o]
      ·obtain rfl:k=m.length:=zO
       have HG:zI (zde m):=zH (by
        have h:=HOK.o;rw[List.take_length]at h;exact⟨zO,zO,by rw[HX.o];omega,by rw[HX.o];omega,by rw[HX.o];exact h⟩)
       go_wp2_with fail;go_quiet (fail);have hbN:=zna (B:=wr.heap.size) wr nq;go_wp2_with fail;refine bodyPost_ret (v:= .tuple #[.int .i64 m.length, .int .i64 x.length, .bool true]) (by simp[results,Tryz.results211,go_sem]) rfl ⟨?_,zaa hb hbN⟩;rw[zIP HG.o,HX.o]
theorem rshape_ok (va:Value) (a:List (List RF)) (n m:Nat) (w:World) (ha:MatN w va a) (hs:zde a) (hn:a.length=n) (hm:cols a=m):
 Calls Tryz.prog 211 #[va] w λ e w'=>e= .returned (.tuple #[.int .i64 n, .int .i64 m, .bool true])/\Below w.heap.size w w':=
 (rshape_any va a w ha).mono λ e w' ⟨h1,h2⟩=>⟨by
  rw[zIP hs]at h1;subst hn hm;exact h1,h2⟩
theorem rowL_at {n:Nat} {f:Nat->Rat} {i:Nat} (h:i<n):(zxa n f).getD i 0=f i:=by
 have h2:i<(zxa n f).length:=by rw[zda];exact h
 rw[zGD,zGE h2,Option.getD_some,zqb]
theorem rweights_mat (va:Value) (n:Nat) (A:Mx) (w:World) (ha:zij w va n n A) (hf:fitM n n A) (h1:1<=n) (h24:n<=24):
 Calls Tryz.prog 174 #[va] w λ e w'=>e= .returned (.int .i64 (wtF n n A:Nat))/\Below w.heap.size w w':=
 rweights_any va (rawM n n A) w ha.raw (zql h1 h24 h1 h24 hf)
end Go.Proofs.YtlpdkbmmbdfoiaaGreat
