/- Parts IntB, IntC, IntD, IntE, IntF, Pop, Small, Root, Zg, Sxb, Ab, Upto, Stays, Zs, UptoZ, Heap, Near, Flt, Sxk, Ref1, Ref3, Shl, App, Bz, Li, Apx, Fl, Apb, Fl2, Apc, Apt, Lw7, Lw7m, Lw7o, Lw7q, joined. -/
import Derived.Test.YtgilhcdglaneiaaS1
import Derived.Test.YtgilhcdglaneiaaRows
import Derived.WalkKit
import Derived.ProofKit
import Derived.OpenShut
import Derived.JoinedCond
import Derived.ChangeSame
import Derived.ChangeSlices
import Derived.ChangeStays
import Derived.Deep.Slices
import Derived.DataShut
import Derived.Laws.FloatArith
import Derived.WalkSmall
import Derived.ArgAppend

namespace Go.Proofs.Ytgilhcdglaneiaa
open Go.RowKit
theorem Bk.two_far {w:World}{g g':Nat}{t:TypeId}{l:List Value}(h:Bk w g t l) (hne:g≠g') (u v:Value):Bk ((w.setCell ⟨g',0,none⟩ u).setCell ⟨g',1,none⟩ v) g t l:=(h.far (p:=⟨g',0,none⟩) hne u).far (p:=⟨g',1,none⟩) hne v
set_option maxHeartbeats 1000000 in
theorem zint_Add {w:World}{s t:Bool}{A B:Option Addr}{n cap m cap':Nat}{x y:Int}(hx:Zi w s A n cap x) (hl:n≤274877906944) (hy:Zi w t B m cap' y) (hl':m≤274877906944):
  Calls Try.prog 18 #[.agg #[.bool s,.slice A n cap],.agg #[.bool t,.slice B m cap']] w (RetZ w (x+y)):=by
 obtain⟨xs,hr,rfl⟩:=hx
 obtain⟨ys,hq,rfl⟩:=hy
 go_enter Try.func18,Try.ntmps18
 go_upto_region 1 with (fail)
 obtain⟨g,g2,g3,wa,hg3,hg2,hg,hwa,hb1,hb2,hb3,hea,l12,l23,l3,n12,n21,n13,n31,n23,n32⟩:=boxes3 w 43 43 43 (.bool s) (.slice A n cap) (.bool t) (.slice B m cap') (.bool false) (.slice none 0 0)
 rw [hg3,hg2,hg,hwa]
 have hgw:w.heap.size≤g:=Nat.le_of_eq hg
 clear hwa hg hg2 hg3
 obtain⟨f1,f2,f3,f4⟩:=hb1.two
 obtain⟨h1,h2,h3,h4⟩:=hb2.two
 obtain⟨k1,k2,k3,k4⟩:=hb3.two
 by_cases hst:s=t
 ·have bs:(s==t)=true:=by rw [hst];cases t <;> rfl
  go_upto_region 2 with (fail)
  go_region_held3 (fun w'=>w'.cell? ⟨g,0,none⟩=some (.bool s)∧w'.cell? ⟨g,1,none⟩=some (.slice A n cap)∧w'.cell? ⟨g2,0,none⟩=some (.bool t)∧w'.cell? ⟨g2,1,none⟩=some (.slice B m cap')) (go_keep)
   (first
   | (go_at_call 48;refine (nat_Add (hr.ext (by repeat (first | exact Ext.refl _ | assumption | apply Ext.drewN | apply Ext.drew | apply Ext.alloc))) (by omega) (hq.ext (by repeat (first | exact Ext.refl _ | assumption | apply Ext.drewN | apply Ext.drew | apply Ext.alloc))) (by omega)).mono ?_;rintro e w1 ⟨A1,n1,c1,rfl,hn1,hr1,ho1,hx1⟩;have he1:Ext wa w1:=Ext.trans (by repeat (first | exact Ext.refl _ | assumption | apply Ext.drewN | apply Ext.drew | apply Ext.alloc)) hx1;have hb1:=hb1.ext he1;have hb2:=hb2.ext he1;have hb3:=hb3.ext he1;obtain⟨f1,f2,f3,f4⟩:=hb1.two;obtain⟨h1,h2,h3,h4⟩:=hb2.two;obtain⟨k1,k2,k3,k4⟩:=hb3.two)
   | (go_at_call 46;refine (zint_of hn1.out).mono ?_;rintro e w2 ⟨s',rfl,hs',hx2⟩;have hd1:=hb1.ext hx2;have hd2:=hb2.ext hx2;have hd3:=hb3.ext hx2;obtain⟨f1,f2,f3,f4⟩:=hd1.two;obtain⟨h1,h2,h3,h4⟩:=hd2.two;obtain⟨k1,k2,k3,k4⟩:=hd3.two))
  go_wp2_with fail
  refine bodyPost_ret (res_int rfl rfl (hd3.two_set _ _)) rfl ?_
  exact fin_int hd3 ((Zr_of hs'.out hn1.out ho1 (by rw [sg_add,hst])).ext hx2) (by first | omega | (simp;omega)) (by omega) (hea.trans (he1.trans hx2))
 ·have bs:(s==t)=false:=by cases s <;> cases t <;> simp_all
  have ht:Hid (t= !s):=by show _=_;cases s <;> cases t <;> simp_all
  clear hst
  go_wp2_with fail
  refine (nat_Cmp (hr.ext hea) (by omega) (hq.ext hea) (by omega)).mono ?_
  rintro e w1 ⟨c,hc,hcl,hch,rfl,hx1⟩
  have hb1:=hb1.ext hx1
  have hb2:=hb2.ext hx1
  have hb3:=hb3.ext hx1
  have he1:=hea.trans hx1
  have hsz:=hx1.size
  clear f1 f2 f3 f4 h1 h2 h3 h4 k1 k2 k3 k4
  obtain⟨f1,f2,f3,f4⟩:=hb1.two
  obtain⟨h1,h2,h3,h4⟩:=hb2.two
  by_cases hlt:c<0
  ·have hle:nv xs≤nv ys:=by rw [hc.out] at hlt;exact Nat.le_of_lt (cmp3_neg.1 hlt)
   have HLE:=Lib.hid hle
   clear hle
   go_upto_region 5 with (fail)
   obtain⟨wb,hwb⟩:∃wb,(((w1.setCell ⟨g,0,none⟩ (.bool t)).setCell ⟨g,1,none⟩ (.slice B m cap')).setCell ⟨g2,0,none⟩ (.bool s)).setCell ⟨g2,1,none⟩ (.slice A n cap)=wb:=⟨_,rfl⟩
   rw [hwb]
   have hd1:Bk wb g 43 [.bool t,.slice B m cap']:=by rw [←hwb];exact (hb1.two_set _ _).two_far n12 _ _
   have hd2:Bk wb g2 43 [.bool s,.slice A n cap]:=by rw [←hwb];exact (hb2.two_far n21 _ _).two_set _ _
   have hd3:Bk wb g3 43 [.bool false,.slice none 0 0]:=by rw [←hwb];exact (hb3.two_far n31 _ _).two_far n32 _ _
   have heb:Ext w wb:=by
    rw [←hwb]
    exact (Upd.two _ _).ext ((Upd.two _ _).ext he1 hgw) (by omega)
   have hszb:wb.heap.size=w1.heap.size:=by rw [←hwb];simp [World.setCell]
   clear hwb f1 f2 f3 f4 h1 h2 h3 h4
   obtain⟨f1,f2,f3,f4⟩:=hd1.two
   obtain⟨h1,h2,h3,h4⟩:=hd2.two
   go_wp2_with fail
   refine (nat_Sub (hq.ext heb) (by omega) (hr.ext heb) (by omega) HLE.out).mono ?_
   rintro e w2 ⟨A2,n2,c2,rfl,hn2,hr2,ho2,hx2⟩
   obtain⟨f1,f2,f3,f4⟩:=(hd1.ext hx2).two
   have hd3:=hd3.ext hx2
   go_wp2_with fail
   refine (zint_of hn2.out).mono ?_
   rintro e w3 ⟨s',rfl,hs',hx3⟩
   have hd3:=hd3.ext hx3
   obtain⟨k1,k2,k3,k4⟩:=hd3.two
   go_wp2_with fail
   refine bodyPost_ret (res_int rfl rfl (hd3.two_set _ _)) rfl ?_
   exact fin_int hd3 ((Zr_of hs'.out hn2.out ho2 (by rw [sg_sub HLE.out,ht.out,Bool.not_not,Int.add_comm])).ext hx3) (by omega) (by omega) (heb.trans (hx2.trans hx3))
  ·have hle:nv ys≤nv xs:=by rw [hc.out] at hlt;exact Nat.le_of_not_lt (fun h=>hlt (cmp3_neg.2 h))
   have HLE:=Lib.hid hle
   clear hle
   go_wp2_with fail
   refine (nat_Sub (hr.ext he1) (by omega) (hq.ext he1) (by omega) HLE.out).mono ?_
   rintro e w2 ⟨A2,n2,c2,rfl,hn2,hr2,ho2,hx2⟩
   obtain⟨f1,f2,f3,f4⟩:=(hb1.ext hx2).two
   have hd3:=hb3.ext hx2
   go_wp2_with fail
   refine (zint_of hn2.out).mono ?_
   rintro e w3 ⟨s',rfl,hs',hx3⟩
   have hd3:=hd3.ext hx3
   obtain⟨k1,k2,k3,k4⟩:=hd3.two
   go_wp2_with fail
   refine bodyPost_ret (res_int rfl rfl (hd3.two_set _ _)) rfl ?_
   exact fin_int hd3 ((Zr_of hs'.out hn2.out ho2 (by rw [sg_sub HLE.out,ht.out])).ext hx3) (by omega) (by omega) (he1.trans (hx2.trans hx3))
theorem zint_Of {w:World}{v:Nat}(hv:v≤9223372036854775807):
  Calls Try.prog 16 #[.int .i64 (v:Int)] w (RetZ w ((v:Int))):=by
 have hn:¬(v:Int)<0:=by omega
 go_enter Try.func16,Try.ntmps16
 go_upto_region 3 with (fail)
 obtain⟨g,hg⟩:∃g,w.heap.size=g:=⟨_,rfl⟩
 obtain⟨wa,hwa⟩:∃wa,w.alloc (.cells #[.bool false,.slice none 0 0] 43)=wa:=⟨_,rfl⟩
 rw [hg,hwa]
 have hb:Bk wa g 43 [.bool false,.slice none 0 0]:=by rw [←hwa,←hg];exact Bk.new w 43 [.bool false,.slice none 0 0]
 have hea:Ext w wa:=by rw [←hwa];exact (Ext.refl w).alloc _
 have hga:w.heap.size≤g:=Nat.le_of_eq hg
 have hgl:g<wa.heap.size:=hb.lt
 clear hwa hg
 obtain⟨k1,k2,k3,k4⟩:=hb.two
 have h1:Rd (wa.alloc (.cells #[.int .u64 (v:Int)] 24)) (some ⟨wa.heap.size,0,none⟩) 1 1 [v]:=Rd.one wa (by omega)
 go_wp2_with fail
 refine (nat_Least (h1.ext (by repeat (first | exact Ext.refl _ | assumption | apply Ext.drewN | apply Ext.drew | apply Ext.alloc))) (by omega)).mono ?_
 rintro e w1 ⟨A1,n1,c1,rfl,hn1,hr1,ho1,hx1⟩
 rw [nv_one] at hn1 ho1
 have hx1':Ext wa w1:=Ext.trans (by repeat (first | exact Ext.refl _ | assumption | apply Ext.drewN | apply Ext.drew | apply Ext.alloc)) hx1
 have hd:=hb.ext hx1'
 have hsz:=hx1'.size
 go_wp2_with fail
 refine (zint_of hn1.out).mono ?_
 rintro e w2 ⟨s',rfl,hs',hx2⟩
 have hd:=hd.ext hx2
 clear k1 k2 k3 k4
 obtain⟨k1,k2,k3,k4⟩:=hd.two
 go_wp2_with fail
 refine bodyPost_ret (res_int rfl rfl (hd.two_set _ _)) rfl ?_
 exact fin_int hd ((Zr_of hs'.out hn1.out ho1 (sg_false _)).ext hx2) (by simp;omega) (by omega) (hea.trans (hx1'.trans hx2))
structure Flo (q r x y:Int):Prop where
 eq:q*y+r=x
 pos:0<y→0≤r∧r<y
 neg:y<0→y<r∧r≤0
theorem Zi.sgn {w:World}{s:Bool}{A:Option Addr}{n cap:Nat}{z:Int}(h:Zi w s A n cap z) (h0:z≠0):s=decide (z<0):=by
 obtain⟨xs,_,rfl⟩:=h
 have hm:nv xs≠0:=fun e=>h0 (sg_eq_zero.2 e)
 rw [sg_lt,decide_eq_true (show 0<nv xs by omega),Bool.and_true]
structure Euc (q r x y:Int):Prop where
 eq:q*y+r=x
 lo:0≤r
 hi:r<y
end Go.Proofs.Ytgilhcdglaneiaa

namespace Go.Proofs.Ytgilhcdglaneiaa.Pop
def mk (m:Nat):Nat→Nat
 | 0=>0
 | k+1=>m+256*mk m k
theorem and_byte (a A m M:Nat) (ha:a<256) (hm:m<256):(a+256*A)&&& (m+256*M)=(a&&& m)+256*(A&&& M):=by
 have h1:((a+256*A)&&& (m+256*M))%2^8=a&&& m:=by
  rw [Nat.and_mod_two_pow]
  congr 1 <;> omega
 have h2:((a+256*A)&&& (m+256*M))/2^8=A&&& M:=by
  rw [Nat.and_div_two_pow]
  congr 1 <;> omega
 have h3:=Nat.mod_add_div ((a+256*A)&&& (m+256*M)) (2^8)
 rw [h1,h2] at h3
 exact h3.symm
def f1 (k x:Nat):Nat:=(x/2&&& mk 85 k)+(x&&& mk 85 k)
def f2 (k x:Nat):Nat:=(x/4&&& mk 51 k)+(x&&& mk 51 k)
def f3 (k x:Nat):Nat:=(x/16+x)&&& mk 15 k
def d1 (b:Nat):Nat:=(b/2&&& 85)+(b&&& 85)
def d2 (b:Nat):Nat:=(b/4&&& 51)+(b&&& 51)
def d3 (b:Nat):Nat:=(b/16+b)&&& 15
def pc (b:Nat):Nat:=d3 (d2 (d1 b))
theorem t1:∀b:Fin 256,∀p:Fin 2,((b.val/2+128*p.val)&&& 85)=(b.val/2&&& 85):=by decide+kernel
theorem t2:∀b:Fin 256,∀p:Fin 4,((b.val/4+64*p.val)&&& 51)=(b.val/4&&& 51):=by decide+kernel
theorem t3:∀b:Fin 256,∀p:Fin 5,((d2 (d1 b.val)/16+d2 (d1 b.val)+16*p.val)&&& 15)=pc b.val:=by decide+kernel
theorem t4:∀b:Fin 256,d1 b.val<256∧d2 (d1 b.val)<69∧d2 (d1 b.val)%16≤4∧pc b.val≤8∧(pc b.val=0→b.val=0)∧(128≤b.val→pc b.val≤1→b.val=128):=by decide+kernel
theorem f1_step {k b B:Nat}(hb:b<256):f1 (k+1) (b+256*B)=d1 b+256*f1 k B:=by
 unfold f1 d1
 rw [show mk 85 (k+1)=85+256*mk 85 k from rfl]
 have e:(b+256*B)/2=(b/2+128*(B%2))+256*(B/2):=by omega
 rw [e,and_byte _ _ _ _ (by omega) (by omega),and_byte _ _ _ _ hb (by omega),t1 ⟨b,hb⟩ ⟨B%2,by omega⟩]
 show (b/2&&& 85)+_+_=_
 omega
theorem f2_step {k b B:Nat}(hb:b<256):f2 (k+1) (b+256*B)=d2 b+256*f2 k B:=by
 unfold f2 d2
 rw [show mk 51 (k+1)=51+256*mk 51 k from rfl]
 have e:(b+256*B)/4=(b/4+64*(B%4))+256*(B/4):=by omega
 rw [e,and_byte _ _ _ _ (by omega) (by omega),and_byte _ _ _ _ hb (by omega),t2 ⟨b,hb⟩ ⟨B%4,by omega⟩]
 show (b/4&&& 51)+_+_=_
 omega
theorem steps {k b B:Nat}(hb:b<256) (hB:f2 k (f1 k B)%16≤4):
  f3 (k+1) (f2 (k+1) (f1 (k+1) (b+256*B)))=pc b+256*f3 k (f2 k (f1 k B))∧f2 (k+1) (f1 (k+1) (b+256*B))%16≤4:=by
 obtain⟨h1,h2,h3,_⟩:=t4 ⟨b,hb⟩
 rw [f1_step hb,f2_step h1]
 refine⟨?_,by omega⟩
 generalize f2 k (f1 k B)=C at*
 unfold f3
 rw [show mk 15 (k+1)=15+256*mk 15 k from rfl]
 have e:(d2 (d1 b)+256*C)/16+(d2 (d1 b)+256*C)=(d2 (d1 b)/16+d2 (d1 b)+16*(C%16))+256*(C/16+C):=by omega
 have h2':d2 (d1 b)<69:=h2
 rw [e,and_byte _ _ _ _ (by omega) (by omega),t3 ⟨b,hb⟩ ⟨C%16,by omega⟩]
theorem eight {b0 b1 b2 b3 b4 b5 b6 b7:Nat}(h0:b0<256) (h1:b1<256) (h2:b2<256) (h3:b3<256) (h4:b4<256) (h5:b5<256) (h6:b6<256) (h7:b7<256):
  f3 8 (f2 8 (f1 8 (b0+256*(b1+256*(b2+256*(b3+256*(b4+256*(b5+256*(b6+256*(b7+256*0))))))))))
   =pc b0+256*(pc b1+256*(pc b2+256*(pc b3+256*(pc b4+256*(pc b5+256*(pc b6+256*pc b7)))))):=by
 have s7:=steps (k:=0) (B:=0) h7 (by decide)
 have s6:=steps h6 s7.2
 have s5:=steps h5 s6.2
 have s4:=steps h4 s5.2
 have s3:=steps h3 s4.2
 have s2:=steps h2 s3.2
 have s1:=steps h1 s2.2
 have s0:=steps h0 s1.2
 rw [s0.1,s1.1,s2.1,s3.1,s4.1,s5.1,s6.1,s7.1]
 simp [f3,mk]
theorem folds {p0 p1 p2 p3 p4 p5 p6 p7:Nat}(h0:p0≤8) (h1:p1≤8) (h2:p2≤8) (h3:p3≤8) (h4:p4≤8) (h5:p5≤8) (h6:p6≤8) (h7:p7≤8){x3 x4 x5 x6:Nat}
  (e3:x3=p0+256*(p1+256*(p2+256*(p3+256*(p4+256*(p5+256*(p6+256*p7))))))) (e4:x4=x3+x3/256) (e5:x5=x4+x4/65536) (e6:x6=x5+x5/4294967296):
  x6%128=p0+p1+p2+p3+p4+p5+p6+p7∧x6<18446744073709551616:=by
 have g4:x4=(p0+p1)+256*((p1+p2)+256*((p2+p3)+256*((p3+p4)+256*((p4+p5)+256*((p5+p6)+256*((p6+p7)+256*p7)))))):=by omega
 clear e3 e4
 have g5:x5=(p0+p1+p2+p3)+256*((p1+p2+p3+p4)+256*((p2+p3+p4+p5)+256*((p3+p4+p5+p6)+256*((p4+p5+p6+p7)+256*((p5+p6+p7)+256*((p6+p7)+256*p7)))))):=by omega
 clear g4 e5
 have gq:x5/4294967296=(p4+p5+p6+p7)+256*((p5+p6+p7)+256*((p6+p7)+256*p7)):=by omega
 rw [gq] at e6
 have g6:x6=(p0+p1+p2+p3+p4+p5+p6+p7)+256*(((p1+p2+p3+p4)+256*((p2+p3+p4+p5)+256*((p3+p4+p5+p6)+256*((p4+p5+p6+p7)+256*((p5+p6+p7)+256*((p6+p7)+256*p7))))))+((p5+p6+p7)+256*((p6+p7)+256*p7))):=by omega
 clear gq e6 g5
 omega
theorem one {x x1 x2 x3 x4 x5 x6:Nat}(hx:x<18446744073709551616) (hh:9223372036854775808≤x) (e1:x1=f1 8 x) (e2:x2=f2 8 x1) (e3:x3=f3 8 x2) (e4:x4=x3+x3/256) (e5:x5=x4+x4/65536) (e6:x6=x5+x5/4294967296):
  x6%128=1↔x=9223372036854775808:=by
 obtain⟨b0,q0,hb0,hq0⟩:∃b q,b<256∧x=b+256*q:=⟨x%256,x/256,by omega,by omega⟩
 obtain⟨b1,q1,hb1,hq1⟩:∃b q,b<256∧q0=b+256*q:=⟨q0%256,q0/256,by omega,by omega⟩
 obtain⟨b2,q2,hb2,hq2⟩:∃b q,b<256∧q1=b+256*q:=⟨q1%256,q1/256,by omega,by omega⟩
 obtain⟨b3,q3,hb3,hq3⟩:∃b q,b<256∧q2=b+256*q:=⟨q2%256,q2/256,by omega,by omega⟩
 obtain⟨b4,q4,hb4,hq4⟩:∃b q,b<256∧q3=b+256*q:=⟨q3%256,q3/256,by omega,by omega⟩
 obtain⟨b5,q5,hb5,hq5⟩:∃b q,b<256∧q4=b+256*q:=⟨q4%256,q4/256,by omega,by omega⟩
 obtain⟨b6,b7,hb6,hq6⟩:∃b q,b<256∧q5=b+256*q:=⟨q5%256,q5/256,by omega,by omega⟩
 have hb7:b7<256:=by omega
 have hb7':128≤b7:=by omega
 have e:=eight hb0 hb1 hb2 hb3 hb4 hb5 hb6 hb7
 have ex:x=b0+256*(b1+256*(b2+256*(b3+256*(b4+256*(b5+256*(b6+256*(b7+256*0))))))):=by omega
 rw [←ex,←e1,←e2,←e3] at e
 have p0:=(t4 ⟨b0,hb0⟩).2.2.2
 have p1:=(t4 ⟨b1,hb1⟩).2.2.2
 have p2:=(t4 ⟨b2,hb2⟩).2.2.2
 have p3:=(t4 ⟨b3,hb3⟩).2.2.2
 have p4:=(t4 ⟨b4,hb4⟩).2.2.2
 have p5:=(t4 ⟨b5,hb5⟩).2.2.2
 have p6:=(t4 ⟨b6,hb6⟩).2.2.2
 have p7:=(t4 ⟨b7,hb7⟩).2.2.2
 have hf:=(folds p0.1 p1.1 p2.1 p3.1 p4.1 p5.1 p6.1 p7.1 e e4 e5 e6).1
 simp only at p0 p1 p2 p3 p4 p5 p6 p7
 rw [hf]
 show (pc b0+pc b1+pc b2+pc b3+pc b4+pc b5+pc b6+pc b7=1)↔_
 constructor
 ·intro h
  have h7:pc b7≠0:=fun hz=>by have:=p7.2.1 hz;omega
  have hs:pc b0+pc b1+pc b2+pc b3+pc b4+pc b5+pc b6=0∧pc b7=1:=by clear p0 p1 p2 p3 p4 p5 p6 p7 e e1 e2 e3 e4 e5 e6 ex hq0 hq1 hq2 hq3 hq4 hq5 hq6 hf;omega
  obtain⟨hs,h8⟩:=hs
  have z0:=p0.2.1 (by omega)
  have z1:=p1.2.1 (by omega)
  have z2:=p2.2.1 (by omega)
  have z3:=p3.2.1 (by omega)
  have z4:=p4.2.1 (by omega)
  have z5:=p5.2.1 (by omega)
  have z6:=p6.2.1 (by omega)
  have z7:=p7.2.2 hb7' (by omega)
  omega
 ·intro h
  obtain rfl:b7=128:=by omega
  obtain rfl:b0=0:=by omega
  obtain rfl:b1=0:=by omega
  obtain rfl:b2=0:=by omega
  obtain rfl:b3=0:=by omega
  obtain rfl:b4=0:=by omega
  obtain rfl:b5=0:=by omega
  obtain rfl:b6=0:=by omega
  decide
end Go.Proofs.Ytgilhcdglaneiaa.Pop

namespace Go.Proofs.Ytgilhcdglaneiaa
open Go.RowKit
theorem zint_Of_neg {w:World}{v:Nat}(hv1:1≤v) (hv:v≤9223372036854775808):
  Calls Try.prog 16 #[.int .i64 (-(v:Int))] w (RetZ w (-(v:Int))):=by
 have hn: -(v:Int)<0:=by omega
 have w1e:IntKind.u64.wrap (-(v:Int))=18446744073709551616-(v:Int):=by
  simp only [IntKind.wrap,IntKind.bits,IntKind.signed]
  simp
  omega
 have w2e:IntKind.u64.wrap (-(18446744073709551616-(v:Int)))=(v:Int):=by
  simp only [IntKind.wrap,IntKind.bits,IntKind.signed]
  simp
  omega
 have W1:=Lib.hid w1e
 have W2:=Lib.hid w2e
 clear w1e w2e
 go_enter Try.func16,Try.ntmps16
 go_upto_region 2 with (fail)
 obtain⟨g,hg⟩:∃g,w.heap.size=g:=⟨_,rfl⟩
 obtain⟨wa,hwa⟩:∃wa,w.alloc (.cells #[.bool false,.slice none 0 0] 43)=wa:=⟨_,rfl⟩
 rw [hg,hwa]
 have hb:Bk wa g 43 [.bool false,.slice none 0 0]:=by rw [←hwa,←hg];exact Bk.new w 43 [.bool false,.slice none 0 0]
 have hea:Ext w wa:=by rw [←hwa];exact (Ext.refl w).alloc _
 have hga:w.heap.size≤g:=Nat.le_of_eq hg
 have hgl:g<wa.heap.size:=hb.lt
 clear hwa hg
 obtain⟨k1,k2,k3,k4⟩:=hb.two
 have h1:Rd (wa.alloc (.cells #[.int .u64 (v:Int)] 24)) (some ⟨wa.heap.size,0,none⟩) 1 1 [v]:=Rd.one wa (by omega)
 have w1e:=W1.out
 have w2e:=W2.out
 go_wp2_with fail
 clear w1e w2e
 refine (nat_Least (h1.ext (by repeat (first | exact Ext.refl _ | assumption | apply Ext.drewN | apply Ext.drew | apply Ext.alloc))) (by omega)).mono ?_
 rintro e w1 ⟨A1,n1,c1,rfl,hn1,hr1,ho1,hx1⟩
 rw [nv_one] at hn1 ho1
 have hx1':Ext wa w1:=Ext.trans (by repeat (first | exact Ext.refl _ | assumption | apply Ext.drewN | apply Ext.drew | apply Ext.alloc)) hx1
 have hd:=hb.ext hx1'
 have hsz:=hx1'.size
 go_wp2_with fail
 refine (zint_of hn1.out).mono ?_
 rintro e w2 ⟨s',rfl,hs',hx2⟩
 have hd:=hd.ext hx2
 clear k1 k2 k3 k4
 obtain⟨k1,k2,k3,k4⟩:=hd.two
 go_wp2_with fail
 refine bodyPost_ret (res_int rfl rfl (hd.two_set _ _)) rfl ?_
 exact fin_int hd ((Zr_of hs'.out hn1.out ho1 (sg_true _)).ext hx2) (by simp;omega) (by omega) (hea.trans (hx1'.trans hx2))
theorem zint_OfI {w:World}{v:Int}(h1: -9223372036854775808≤v) (h2:v≤9223372036854775807):Calls Try.prog 16 #[.int .i64 v] w (RetZ w v):=by
 by_cases h:0≤v
 ·obtain⟨m,rfl⟩:=Int.eq_ofNat_of_zero_le h
  exact zint_Of (by omega)
 ·obtain⟨m,hm⟩:∃m:Nat,v= -(m:Int):=⟨v.natAbs,by omega⟩
  subst hm
  exact zint_Of_neg (by omega) (by omega)
def IsRoot (X k r:Nat):Prop:=r^k≤X∧X<(r+1)^k
theorem IsRoot.le {X k r s:Nat}(h:IsRoot X k r) (hs:X<(s+1)^k):r≤s:=by
 refine Nat.le_of_not_lt (fun hlt=>?_)
 have h1:=Nat.pow_le_pow_left (Nat.succ_le_of_lt hlt) k
 have:=h.1
 rw [Nat.succ_eq_add_one] at h1
 omega
theorem IsRoot.uniq {X k r s:Nat}(h:IsRoot X k r) (g:IsRoot X k s):r=s:=Nat.le_antisymm (h.le g.2) (g.le h.2)
theorem IsRoot.zero {k:Nat}(hk:1≤k):IsRoot 0 k 0:=⟨by rw [Nat.zero_pow (by omega)];exact Nat.le_refl _,by rw [Nat.zero_add,Nat.one_pow];omega⟩
theorem IsRoot.one {X:Nat}:IsRoot X 1 X:=⟨by rw [Nat.pow_one];exact Nat.le_refl _,by rw [Nat.pow_one];omega⟩
theorem aggInt:AggT Try.prog 43 2:=⟨fun _=>by kernel_rfl,fun _=>by kernel_rfl⟩
theorem cellBool:∀w,(isAgg 4).run Try.prog w= .ok false w:=fun _=>by kernel_rfl
theorem cellWords:∀w,(isAgg 22).run Try.prog w= .ok false w:=fun _=>by kernel_rfl
theorem mix:Try.prog.follows .mixedOrders=true:=by kernel_rfl
def Is (u v:Value) (_:World):Prop:=v=u
def ZR (b:Nat) (z:Int) (v:Value) (w:World):Prop:=∃s A n c,v= .agg #[.bool s,.slice A n c]∧Zr w b s A n c z
def WR (b:Nat) (m:Nat) (v:Value) (w:World):Prop:=∃A n c,v= .slice A n c∧n=(wd m).length∧Own w b 24 1 A n c ((wd m).map W64)
def Wi (w:World) (A:Option Addr) (n c:Nat) (m:Nat):Prop:=∃xs,Rd w A n c xs∧nv xs=m
theorem Wi.ext {w w':World}{A:Option Addr}{n c m:Nat}(h:Wi w A n c m) (e:Ext w w'):Wi w' A n c m:=by
 obtain⟨xs,h1,h2⟩:=h
 exact⟨xs,h1.ext e,h2⟩
theorem Zi.wi {w:World}{s:Bool}{A:Option Addr}{n c:Nat}{z:Int}(h:Zi w s A n c z):Wi w A n c z.natAbs:=by
 obtain⟨xs,h1,h2⟩:=h
 exact⟨xs,h1,by rw [←h2,sg_abs]⟩
theorem Own.wi {w:World}{b:Nat}{t:TypeId}{A:Option Addr}{n c m:Nat}(h:Own w b t 1 A n c ((wd m).map W64)):Wi w A n c m:=⟨_,h.rd (Wf_wd _),nv_wd m⟩
theorem Wi.zi {w:World}{A:Option Addr}{n c m:Nat}(h:Wi w A n c m) (s:Bool):Zi w s A n c (sg s m):=by
 obtain⟨xs,h1,h2⟩:=h
 exact⟨xs,h1,by rw [h2]⟩
theorem Wi.len {w:World}{A:Option Addr}{n c m:Nat}(h:Wi w A n c m):(wd m).length≤n:=by
 obtain⟨xs,h1,rfl⟩:=h
 have:=len_wd_nv h1.wf
 rw [h1.len] at this;exact this
def PR (b:Nat) (T:TypeId) (vs:List Value) (v:Value) (w:World):Prop:=∃g,v= .pointer (some ⟨g,0,none⟩)∧b≤g∧Bk w g T vs
theorem PR.old {b:Nat}{T:TypeId}{vs:List Value}{v:Value}{w:World}(h:PR b T vs v w):OldIn w v:=by
 obtain⟨g,h1,_,h2⟩:=h
 exact⟨g,h1,h2.lt⟩
theorem Zr_nat {w:World}{b m n c:Nat}{A:Option Addr}(hn:n=(wd m).length) (ho:Own w b 24 1 A n c ((wd m).map W64)):Zr w b false A n c (m:Int):=
 Zr_of (m:=m) (s:=false) (by rw [sg_false];symm;exact decide_eq_false (by omega)) hn ho (sg_false m)
def T2 (R S:Value→World→Prop) (v:Value) (w:World):Prop:=∃a b,v= .tuple #[a,b]∧R a w∧S b w
def T3 (R S T:Value→World→Prop) (v:Value) (w:World):Prop:=∃a b c,v= .tuple #[a,b,c]∧R a w∧S b w∧T c w
def Gv (w:World) (R:Value→World→Prop) (e:Ending) (w':World):Prop:=∃v,e= .returned v∧R v w'∧Ext w w'
section
variable {w w':World}{b:Nat}{z x y:Int}{v u:Value}{R S T:Value→World→Prop}
theorem ZR.ext (h:ZR b z v w) (e:Ext w w'):ZR b z v w':=by
 obtain⟨s,A,n,c,rfl,h⟩:=h
 exact⟨s,A,n,c,rfl,h.ext e⟩
theorem ZR.cast (h:ZR b z v w) (e:z=x):ZR b x v w:=e▸h
theorem Is.ext (h:Is u v w) (_:Ext w w'):Is u v w':=h
theorem gz (hb:b≤w.heap.size) (e:Ending) (w':World) (h:RetZ w z e w'):Gv w (ZR b z) e w':=by
 obtain⟨s,A,n,c,rfl,h1,h2⟩:=h
 exact⟨_,rfl,⟨s,A,n,c,rfl,h1.mono hb⟩,h2⟩
theorem WR.ext {m:Nat}(h:WR b m v w) (e:Ext w w'):WR b m v w':=by
 obtain⟨A,n,c,rfl,h1,h2⟩:=h
 exact⟨A,n,c,rfl,h1,h2.ext e⟩
theorem Gv.imp (hi:∀v w,R v w→S v w) (e:Ending) (w':World) (h:Gv w R e w'):Gv w S e w':=by
 obtain⟨v,rfl,h1,h2⟩:=h
 exact⟨v,rfl,hi _ _ h1,h2⟩
theorem ZR.imp {b':Nat}(hb:b≤b') (v:Value) (w:World) (h:ZR b' z v w):ZR b z v w:=by
 obtain⟨s,A,n,c,rfl,h⟩:=h
 exact⟨s,A,n,c,rfl,h.mono hb⟩
theorem WR.imp {b' m:Nat}(hb:b≤b') (v:Value) (w:World) (h:WR b' m v w):WR b m v w:=by
 obtain⟨A,n,c,rfl,h1,h2⟩:=h
 exact⟨A,n,c,rfl,h1,h2.mono hb⟩
theorem T2.imp {R' S':Value→World→Prop}(h1:∀v w,R v w→R' v w) (h2:∀v w,S v w→S' v w) (v:Value) (w:World) (h:T2 R S v w):T2 R' S' v w:=by
 obtain⟨a,c,rfl,h3,h4⟩:=h
 exact⟨a,c,rfl,h1 _ _ h3,h2 _ _ h4⟩
theorem T3.imp {R' S' T':Value→World→Prop}(h1:∀v w,R v w→R' v w) (h2:∀v w,S v w→S' v w) (h0:∀v w,T v w→T' v w) (v:Value) (w:World) (h:T3 R S T v w):T3 R' S' T' v w:=by
 obtain⟨a,c,d,rfl,h3,h4,h5⟩:=h
 exact⟨a,c,d,rfl,h1 _ _ h3,h2 _ _ h4,h0 _ _ h5⟩
theorem Is.imp {u:Value}(v:Value) (w:World) (h:Is u v w):Is u v w:=h
theorem gsgn (e:Ending) (w':World) (h:SgnP z w e w'):Gv w (Is (.int .i64 z)) e w':=by
 obtain⟨c,h1,_,_,rfl,h2⟩:=h
 exact⟨_,rfl,(show Value.int .i64 c=_ by rw [h1.out]),h2⟩
end
section
variable {w:World}{b:Nat}(hb:b≤w.heap.size){s t u:Bool}{A B C:Option Addr}{n cap m cap' k cap'':Nat}{x y z:Int}
include hb
theorem g_zint_Add (hx:Zi w s A n cap x) (hl:n≤274877906944) (hy:Zi w t B m cap' y) (hl':m≤274877906944):
  Calls Try.prog 18 #[.agg #[.bool s,.slice A n cap],.agg #[.bool t,.slice B m cap']] w (Gv w (ZR b (x+y))):=(zint_Add hx hl hy hl').mono (gz hb)
theorem g_zint_Of {v:Int}(h1: -9223372036854775808≤v) (h2:v≤9223372036854775807):Calls Try.prog 16 #[.int .i64 v] w (Gv w (ZR b v)):=(zint_OfI h1 h2).mono (gz hb)
end
section
variable {w:World}{s t:Bool}{A B:Option Addr}{n cap m cap':Nat}{x y:Int}
theorem g_zint_Sign (hx:Zi w s A n cap x) (hl:n≤68719476736):Calls Try.prog 23 #[.agg #[.bool s,.slice A n cap]] w (Gv w (Is (.int .i64 (scmp x 0)))):=(zint_Sign hx hl).mono gsgn
end
section
variable {P:Program}{Q:Exit→Act→World→Prop}{n:Nat}{l:Fr}{w:World}{ops:Array Oper}{rest:List Oper}{d:Nat}{op:Op}{ty:TypeId}{pos:String}{af:Array Edge}{gd:Option (Nat×Bool)}
theorem wl_bslice (hw:guardB ops l gd=some true) (hk:known l op=true) (hn:d<n){k:Nat}{e:TypeId}(cells:List Value)
  (hr:∀w,(execOp (rho l) ⟨some d,op,ty,pos,af,gd⟩).run P w= .ok (.value (.slice (some ⟨w.heap.size,0,none⟩) k k)) (w.alloc (.cells cells.toArray e)))
  (h:∀g w',NewBk w w' g e cells→wl P ops Q n rest ((d,.slice (some ⟨g,0,none⟩) k k)::l) w'):wl P ops Q n (⟨some d,op,ty,pos,af,gd⟩::rest) l w:=
 wl_val hw hn (fun a ha=>by rw [exec_known hk ha];exact hr w) (h _ _ (NewBk.mk' w e cells))
end
def O1 (b x:Nat) (v:Value) (w:World):Prop:=∃A,v= .slice A 1 1∧Own w b 24 1 A 1 1 [W64 x]
theorem O1.mk_ {w w':World}{g b x:Nat}(h:NewBk w w' g 24 [W64 x]) (hb:b≤w.heap.size):Own w' b 24 1 (some ⟨g,0,none⟩) 1 1 [W64 x]:=
 Own.mk_ (by rw [←h.at_];exact hb) h.bk (Nat.le_refl _) (by rw [len_maxLen];omega) rfl rfl
theorem own1_wi {w:World}{b x:Nat}{A:Option Addr}(h:Own w b 24 1 A 1 1 [W64 x]) (hx:x≤18446744073709551615):Wi w A 1 1 x:=
 ⟨[x],h.rd (Wf_one (by rw [WB_def];omega)),nv_one x⟩
theorem own1_wd {w:World}{b x:Nat}{A:Option Addr}(h:Own w b 24 1 A 1 1 [W64 x]) (hx:x≤18446744073709551615) (h0:x≠0):Own w b 24 1 A 1 1 ((wd x).map W64):=by
 rw [wd_small (by rw [WB_def];omega) h0];exact h
theorem len1 {x:Nat}(hx:x≤18446744073709551615) (h0:x≠0):1=(wd x).length:=by rw [wd_small (by rw [WB_def];omega) h0];rfl
theorem Zr_neg {w:World}{b m n c:Nat}{A:Option Addr}(h:m≠0) (hn:n=(wd m).length) (ho:Own w b 24 1 A n c ((wd m).map W64)):Zr w b true A n c (-(m:Int)):=
 Zr_of (m:=m) (s:=true) (by rw [sg_lt,decide_eq_true (Nat.pos_of_ne_zero h)];rfl) hn ho (sg_true m)
section
variable {P:Program}{Q:Exit→Act→World→Prop}{n:Nat}{l:Fr}{w:World}
def mvL (n:Nat) (ops:Array Oper):Nat→List Oper→Fr→Option (Fr×List Oper)
 | 0,rest,l=>some (l,rest)
 | _+1,[],_=>none
 | k+1,⟨some d,op,_,_,_,gd⟩::rest,l=>
  match Nat.blt d n with
  | true=>
   match guardB ops l gd with
   | some true=>
    match op with
    | .move x=>match evo l x with
     | some v=>mvL n ops k rest ((d,v)::l)
     | none=>none
    | .assign x=>match evo l x with
     | some v=>mvL n ops k rest ((d,v)::l)
     | none=>none
    | _=>none
   | some false=>mvL n ops k rest ((d,undef)::l)
   | none=>none
  | false=>none
 | _+1,_::_,_=>none
theorem mv {ops:Array Oper}:∀(k:Nat){rest rest':List Oper}{l l':Fr},mvL n ops k rest l=some (l',rest')→wl P ops Q n rest' l' w→wl P ops Q n rest l w
 | 0,rest,rest',l,l',h,hw=>by
  simp only [mvL,Option.some.injEq,Prod.mk.injEq] at h
  obtain⟨rfl,rfl⟩:=h
  exact hw
 | k+1,[],rest',l,l',h,hw=>by simp [mvL] at h
 | k+1,⟨none,op,ty,pos,af,gd⟩::rest,rest',l,l',h,hw=>by simp [mvL] at h
 | k+1,⟨some d,op,ty,pos,af,gd⟩::rest,rest',l,l',h,hw=>by
  unfold mvL at h
  split at h
  ·rename_i hd
   have hd':d<n:=Nat.le_of_ble_eq_true hd
   split at h
   ·rename_i hg
    split at h
    ·split at h
     ·rename_i hx
      exact wl_move hg hx hd' (mv k h hw)
     ·cases h
    ·split at h
     ·rename_i hx
      exact wl_assign hg hx hd' (mv k h hw)
     ·cases h
    ·cases h
   ·rename_i hg
    exact wl_off hg hd' (mv k h hw)
   ·cases h
  ·cases h
theorem sr {id:Nat}{ol:List Oper}{y:Code}(h:wl P ol.toArray (Exit.then (fun a w=>y.wp P Q a w) Q) n ol l w):cw P Q n (.seq (.region id ol.toArray false) y) l w:=cw_seq (cw_region h)
theorem ne_ {ops:Array Oper}{y:Code}(h:cw P Q n y l w):wl P ops (Exit.then (fun a w=>y.wp P Q a w) Q) n [] l w:=wl_nil (eo_then h)
theorem pu {ops:Array Oper}{rest:List Oper}{d:Nat}{op:Op}{ty:TypeId}{pos:String}{af:Array Edge}{gd:Option (Nat×Bool)}{v:Value}(hk:(guardB ops l gd==some true&&known l op&&Nat.blt d n)=true) (hr:(execOp (rho l) ⟨some d,op,ty,pos,af,gd⟩).run P w= .ok (.value v) w)
  (h:wl P ops Q n rest ((d,v)::l) w):wl P ops Q n (⟨some d,op,ty,pos,af,gd⟩::rest) l w:=by
 rw [Bool.and_eq_true,Bool.and_eq_true,beq_iff_eq] at hk
 exact wl_pure hk.1.1 hk.1.2 (Nat.le_of_ble_eq_true hk.2) hr h
section
variable {ops:Array Oper}{rest:List Oper}{d:Nat}{ty:TypeId}{pos:String}{af:Array Edge}{gd:Option (Nat×Bool)}{w0:World}
theorem bx {x:Operand}{t:TypeId}{v:Value}(vs:List Value) (h0:Ext w0 w) (hx:evo l x=some v) (hk:(guardB ops l gd==some true&&Nat.blt d n)=true) (hv:v.cells=vs.toArray)
  (h:∀g w',Bk w' g t vs→w0.heap.size≤g→Ext w w'→Ext w0 w'→wl P ops Q n rest ((d,.pointer (some ⟨g,0,none⟩))::l) w'):wl P ops Q n (⟨some d,.box t x,ty,pos,af,gd⟩::rest) l w:=by
 rw [Bool.and_eq_true,beq_iff_eq] at hk
 exact wl_box hk.1 hx hv (Nat.le_of_ble_eq_true hk.2) fun g w' nb=>h g w' nb.bk (by rw [←nb.at_];exact h0.size) nb.ext (h0.trans nb.ext)
theorem al {t:TypeId}(vs:List Value) (h0:Ext w0 w) (hz:∀w,(zeroValue t).run P w= .ok (.agg vs.toArray) w) (hk:(guardB ops l gd==some true&&Nat.blt d n)=true)
  (h:∀g w',Bk w' g t vs→w0.heap.size≤g→Ext w w'→Ext w0 w'→wl P ops Q n rest ((d,.pointer (some ⟨g,0,none⟩))::l) w'):wl P ops Q n (⟨some d,.alloc t,ty,pos,af,gd⟩::rest) l w:=by
 rw [Bool.and_eq_true,beq_iff_eq] at hk
 exact wl_alloc hk.1 hz rfl (Nat.le_of_ble_eq_true hk.2) fun g w' nb=>h g w' nb.bk (by rw [←nb.at_];exact h0.size) nb.ext (h0.trans nb.ext)
theorem cl {f:FuncId}{xs:Array Operand}{ts:Array TypeId}{vs:List Value}{R:Value→World→Prop}(h0:Ext w0 w) (hc:Calls P f vs.toArray w (Gv w R))
  (hk:(guardB ops l gd==some true&&known l (.call {callee:= .value (.func f),args:=xs,argTypes:=ts})&&Nat.blt d n)=true)
  (hr:(execOp (rho l) ⟨some d,.call {callee:= .value (.func f),args:=xs,argTypes:=ts},ty,pos,af,gd⟩).run P w= .ok (.enter f vs.toArray) w)
  (h:∀v w',R v w'→Ext w w'→Ext w0 w'→wl P ops Q n rest ((d,v)::l) w'):
  wl P ops Q n (⟨some d,.call {callee:= .value (.func f),args:=xs,argTypes:=ts},ty,pos,af,gd⟩::rest) l w:=by
 rw [Bool.and_eq_true,Bool.and_eq_true,beq_iff_eq] at hk
 refine wl_call hk.1.1 hk.1.2 hr (Nat.le_of_ble_eq_true hk.2) hc ?_
 rintro _ w' ⟨v,rfl,r,e⟩
 exact ret_intro (h v w' r e (h0.trans e))
theorem lo {x:Operand}{T T':TypeId}{k off g:Nat}{vs:List Value}(hT:AggT P T k) (hb:Bk w g T' vs) (us:List Value) (hx:evo l x=some (.pointer (some ⟨g,off,none⟩)))
  (hk:(guardB ops l gd==some true&&Nat.blt d n&&Nat.beq us.length k&&Nat.ble (off+k) vs.length)=true) (he:(vs.drop off).take k=us) (h:wl P ops Q n rest ((d,.agg us.toArray)::l) w):wl P ops Q n (⟨some d,.load T x,ty,pos,af,gd⟩::rest) l w:=by
 rw [Bool.and_eq_true,Bool.and_eq_true,Bool.and_eq_true,beq_iff_eq] at hk
 exact wl_load hk.1.1.1 hx (load_agg hT hb us (Nat.eq_of_beq_eq_true hk.1.2) (Nat.le_of_ble_eq_true hk.2) he) (Nat.le_of_ble_eq_true hk.1.1.2) h
theorem so {x y:Operand}{T T':TypeId}{k g off:Nat}{vs us:List Value}(hT:AggT P T k) (hb:Bk w g T' vs) (us':List Value) (h0:Ext w0 w) (hg:w0.heap.size≤g) (hx:evo l x=some (.pointer (some ⟨g,off,none⟩))) (hy:evo l y=some (.agg us.toArray))
  (hk:(guardB ops l gd==some true&&Nat.beq us.length k&&Nat.ble (off+k) vs.length&&us.all (·.oneCell'))=true) (he:overl vs off us=us')
  (h:∀w',Bk w' g T' us'→Upd g w w'→Ext w0 w'→wl P ops Q n rest l w'):wl P ops Q n (⟨none,.store T x y,ty,pos,af,gd⟩::rest) l w:=by
 rw [Bool.and_eq_true,Bool.and_eq_true,Bool.and_eq_true,beq_iff_eq] at hk
 exact wl_stored hk.1.1.1 hx hy hT (Nat.eq_of_beq_eq_true hk.1.1.2) hb (Nat.le_of_ble_eq_true hk.1.2) hk.2 us' he fun w' b u _=>h w' b u (u.ext h0 hg)
end
theorem dk {ol:List Oper}{Rs:List (Value→World→Prop)}{w0 w1:World}{k:Fr→Prop}{acc:Fr}{j:Nat}{ds:List Nat}{v:Value}{d:Nat}
  (hR:Rs[j]?=some (Is v)) (hd:dstOf ol j=some d) (h:Deps ol Rs w0 w1 k ds ((d,v)::acc)):Deps ol Rs w0 w1 k (j::ds) acc:=
 deps_cons hR hd fun v' _ hr _ _=>by
  obtain rfl:=hr
  exact h
theorem pf {ops:Array Oper}{rest:List Oper}{d:Nat}{op:Op}{ty:TypeId}{pos:String}{af:Array Edge}{gd:Option (Nat×Bool)}(g off:Nat) (hk:(guardB ops l gd==some true&&known l op&&Nat.blt d n)=true) (hr:(execOp (rho l) ⟨some d,op,ty,pos,af,gd⟩).run P w= .ok (.value (.pointer (some ⟨g,off,none⟩))) w)
  (h:wl P ops Q n rest ((d,.pointer (some ⟨g,off,none⟩))::l) w):wl P ops Q n (⟨some d,op,ty,pos,af,gd⟩::rest) l w:=pu hk hr h
theorem bq {m k:Nat}(h:Nat.ble m k=true):m≤k:=Nat.le_of_ble_eq_true h
theorem lx_ {a b c:Nat}(h:a≤b) (k:Nat.ble b c=true):a≤c:=Nat.le_trans h (Nat.le_of_ble_eq_true k)
end
abbrev S0:Value:= .slice none 0 0
abbrev F0:Value:= .bool false
abbrev I0:Value:= .int .i64 0
end Go.Proofs.Ytgilhcdglaneiaa

namespace Go.Proofs.Ytgilhcdglaneiaa
open Go.ChangeShapes Go.WideShapes Go.ChangeAt Go.RowKit
theorem own_knob:ownKnob Try.prog.godebug=none:=by kernel_rfl
theorem cells_word:Try.prog.cellsOf 24=1:=by kernel_rfl
theorem bulk_one {H:Type}(d:DataW H):1≤Rows.uptoBulk d:=by
 cases d with
 | lit l=>cases l <;> simp [Rows.uptoBulk]
 | nil=>simp [Rows.uptoBulk]
 | ptr d=>simp [Rows.uptoBulk]
 | slice elems spare=>simp [Rows.uptoBulk]
 | agg parts=>simp [Rows.uptoBulk]
 | iface t d=>simp [Rows.uptoBulk]
 | map entries=>simp [Rows.uptoBulk]
 | held h=>simp [Rows.uptoBulk]
theorem bulk_len {H:Type}(l:List (DataW H)):l.length≤Rows.uptoBulkAll l:=by
 induction l with
 | nil=>simp [Rows.uptoBulkAll]
 | cons x r ih=>have:=bulk_one x;simp only [Rows.uptoBulkAll,List.length_cons];omega
theorem bulk_slice {H:Type}(elems spare:List (DataW H)):elems.length+spare.length≤Rows.uptoBulk (.slice elems spare):=by
 have h1:=bulk_len elems
 have h2:=bulk_len spare
 simp only [Rows.uptoBulk]
 omega
theorem bulk_bound {H:Type}{l:List (DataW H)}(hk:Rows.uptoSmall H l=true):Rows.uptoBulkAll l≤1048576:=of_decide_eq_true hk
theorem wf_nat {n:Int}(h:(Lit.int .u64 n).wf=true):0≤n∧n≤18446744073709551615:=by
 simpa [Lit.wf,IntKind.min,IntKind.max,IntKind.signed,IntKind.bits] using h
theorem post_of_below {H:Type}{enc:TypeId×Value→H}{P:Program}{f:Func}{s:ChangeSpec}{apart fresh handsOn again:Bool}{W W':World}{args:Array Value}{v:Value}{ds gs:List (DataW H)}{before pa pv:List MemPlace}
  (hW:DataW.Whole enc P f.params.toList s.vars apart W args.toList ds gs before)
  (hres:∀(b:Nat) (sp:Nat→Bool) (hd:Bool),DataW.TrodAll enc P W' b sp hd f.resultTypes.toList (v.resultList f.resultTypes.size) (s.fn H (ds++gs)).results [])
  (hargs:∀sp:Nat→Bool,(∀p∈before,sp p.block=true)→DataW.TrodAll enc P W' 0 sp true f.params.toList args.toList (s.fn H (ds++gs)).args pa)
  (hvars:∀sp:Nat→Bool,(∀p∈before,sp p.block=true)→DataW.TrodVars enc P W' sp s.vars (s.fn H (ds++gs)).vars pv)
  (hps:before=pa++pv) (hb:Below W.heap.size W W')
  (hok:∀(j:Nat) (t:TypeId) (r:Value),f.resultTypes[j]?=some t→(v.resultList f.resultTypes.size)[j]?=some r→Value.okWide P W' .any 0 t r):
  s.post enc P f apart fresh handsOn again W args v W':=by
 have hlt:∀p∈before,p.block<W.heap.size:=fun p hp=>hW.lt p hp
 have hold:∀p∈before,(fun b=>decide (b<W.heap.size)) p.block=true:=fun p hp=>by simpa using hlt p hp
 refine⟨ds,gs,before,[],pa,pv,hW,hres _ _ _,hargs _ hold,hvars _ hold,World.keptBut_mono (fun p hp=>⟨hp,?_⟩) (hb.frame (· ∈before)),fun _=>?_⟩
 ·rw [hps,List.mem_append] at hp
  exact Or.inr hp
 ·obtain⟨_,_,_,_,_,hz,hn⟩:=hW
  refine⟨hok,_,_,([]++pa)++pv,⟨[]++pa,pv,trodAll_append (hargs _ (fun _ _=>rfl)) (hres _ _ _),hvars _ (fun _ _=>rfl),rfl,?_,?_⟩,?_⟩
  ·intro b off hp
   have hin:MemPlace.cell b off∈before:=by rw [hps];simpa using hp
   rw [hb.frozen (hlt _ hin)]
   exact hz b off hin
  ·intro ha
   have:=hn ha
   rw [hps] at this
   simpa using this
  ·intro p hp _
   rw [hps]
   simpa using hp
theorem laid_out:laidOutB Try.prog=true:=by kernel_rfl
theorem maps_rowed:mapsRowed Try.prog=true:=by kernel_rfl
def sizedB (P:Program):Bool:=(List.range P.types.size).all fun t=>match P.underlying t with
 | some (.slice e)=>decide (0<P.cellsOf e)
 | _=>true
theorem sized_b:sizedB Try.prog=true:=by kernel_rfl
theorem sized {t e:TypeId}(ht:t<Try.prog.types.size) (hu:Try.prog.underlying t=some (.slice e)):0<Try.prog.cellsOf e:=by
 have:=List.all_eq_true.1 sized_b t (List.mem_range.2 ht)
 simpa [hu] using this
theorem stays {H:Type}{enc:TypeId×Value→H}{W W':World}{t:TypeId}{v:Value}{d:DataW H}{p:List MemPlace}(ht:t<Try.prog.types.size) (h:DataW.Trod enc Try.prog W 0 (fun _=>true) true t v d p)
  (he:Ext W W') (hp:∀q∈p,q.block<W.heap.size){sp:Nat→Bool}(hsp:∀q∈p,sp q.block=true):DataW.Trod enc Try.prog W' 0 sp true t v d p:=by
 obtain⟨n,hn⟩:=h
 exact⟨n,DataW.trod_stays (kids_rows laid_out maps_rowed) sized (fun h=>by cases h) ht hn (fun q hq=>he.below.same (hp q hq)) hsp⟩
theorem stays_all {H:Type}{enc:TypeId×Value→H}{W W':World}(he:Ext W W'){sp:Nat→Bool}:∀{ts:List TypeId}{vs:List Value}{ds:List (DataW H)}{p:List MemPlace},(∀t∈ts,t<Try.prog.types.size)→
  DataW.TrodAll enc Try.prog W 0 (fun _=>true) true ts vs ds p→(∀q∈p,q.block<W.heap.size)→(∀q∈p,sp q.block=true)→DataW.TrodAll enc Try.prog W' 0 sp true ts vs ds p:=by
 intro ts
 induction ts with
 | nil=>
  intro vs ds p _ h _ _
  obtain⟨rfl,rfl,rfl⟩:=trodAll_nil h
  exact trodAll_mk0
 | cons t ts ih=>
  intro vs ds p ht h hp hsp
  obtain⟨v,vs',d,ds',p1,p2,rfl,rfl,rfl,h1,h2⟩:=trodAll_cons h
  exact trodAll_cons_mk (stays (ht t (by simp)) h1 he (fun q hq=>hp q (by simp [hq])) (fun q hq=>hsp q (by simp [hq]))) (ih (fun t h=>ht t (by simp [h])) h2 (fun q hq=>hp q (by simp [hq])) (fun q hq=>hsp q (by simp [hq])))
end Go.Proofs.Ytgilhcdglaneiaa

namespace Go.Proofs.Ytgilhcdglaneiaa
open Go.RowKit
structure Zl (w:World) (A:Option Addr) (n cap:Nat) (zs:List Int) (ms:List Nat):Prop where
 len:zs.length=n
 mlen:ms.length=n
 le:n≤cap
 max:cap≤maxLen
 get:∀i,i<n→∃a s B c,A=some a∧w.cell? (a.add (i*2))=some (.bool s)∧w.cell? (a.add (i*2+1))=some (.slice B (ms.getD i 0) c)∧Zi w s B (ms.getD i 0) c (zs.getD i 0)
theorem Zl.ext {w w':World}{A:Option Addr}{n cap:Nat}{zs:List Int}{ms:List Nat}(h:Zl w A n cap zs ms) (e:Ext w w'):Zl w' A n cap zs ms:=
 ⟨h.len,h.mlen,h.le,h.max,fun i hi=>by
  obtain⟨a,s,B,c,h1,h2,h3,h4⟩:=h.get i hi
  exact⟨a,s,B,c,h1,e.cell h2,e.cell h3,h4.ext e⟩⟩
theorem Zl.take {w:World}{A:Option Addr}{n cap k:Nat}{zs:List Int}{ms:List Nat}(h:Zl w A n cap zs ms) (hk:k≤n):Zl w A k cap (zs.take k) (ms.take k):=
 ⟨by rw [List.length_take,h.len];omega,by rw [List.length_take,h.mlen];omega,Nat.le_trans hk h.le,h.max,fun i hi=>by
  obtain⟨a,s,B,c,h1,h2,h3,h4⟩:=h.get i (by omega)
  have e1:(ms.take k).getD i 0=ms.getD i 0:=by simp [List.getD_eq_getElem?_getD,hi]
  have e2:(zs.take k).getD i 0=zs.getD i 0:=by simp [List.getD_eq_getElem?_getD,hi]
  rw [e1,e2]
  exact⟨a,s,B,c,h1,h2,h3,h4⟩⟩
end Go.Proofs.Ytgilhcdglaneiaa

namespace Go.Proofs.Ytgilhcdglaneiaa
open Go.ChangeShapes Go.WideShapes Go.ChangeAt Go.RowKit
theorem cells_words:Try.prog.cellsOf 22=1:=by kernel_rfl
set_option maxRecDepth 20000 in
theorem open_wcell {H:Type}{enc:TypeId×Value→H}{W:World}{v:Value}{d:DataW H}{p:List MemPlace}{fuel:Nat}
  (hf:DataW.trod enc Try.prog W 0 (fun _=>true) true fuel 22 [v]=some (d,p)):
  ∃A n cap xs,v= .slice A n cap∧Rd W A n cap xs∧n≤Rows.uptoBulk d∧
   ∀W',Ext W W'→∀sp:Nat→Bool,(∀q∈p,sp q.block=true)→∃fuel',DataW.trod enc Try.prog W' 0 sp true fuel' 22 [v]=some (d,p):=by
 rcases open_ints Try.underlying22 Try.underlying24 cells_word hf with⟨hcs,hx⟩ | ⟨a,n',cap',zs,hcs,_,hl,hm,hz,hx,hcell,hwf⟩
 ·obtain rfl:=List.singleton_inj.1 hcs
  simp only [Prod.mk.injEq] at hx
  obtain⟨rfl,rfl⟩:=hx
  exact⟨none,0,0,[],rfl,Rd.nil W,Nat.zero_le _,fun W' _ sp _=>by obtain⟨fu,h⟩:=shut_slice_nil (enc:=enc) (w:=W') (base:=0) (spare:=sp) (held:=true) Try.underlying22;exact⟨fu,h⟩⟩
 ·obtain rfl:=List.singleton_inj.1 hcs
  simp only [Prod.mk.injEq] at hx
  obtain⟨rfl,rfl⟩:=hx
  simp only [if_true] at hz
  have hblk:0<cap'→a.block<W.heap.size:=fun hc=>World.block_lt_of_cell? W (a.add 0) (hcell 0 (by omega)) |> fun h=>by rwa [block_of_add] at h
  have hnn:∀z∈zs,((z.toNat:Nat):Int)=z:=fun z hz'=>Int.toNat_of_nonneg (wf_nat (hwf z hz')).1
  have hlen:(zs.take n').length=n':=by rw [List.length_take];omega
  refine⟨some a,n',cap',(zs.take n').map Int.toNat,rfl,⟨⟨by simp;omega,hl,hm,fun i hi=>⟨a,rfl,?_⟩,fun b hb hc=>by cases hb;exact hblk hc⟩,?_⟩,?_,?_⟩
  ·rw [hcell i (by omega)]
   have hi2:i<zs.length:=by omega
   have hmem:zs[i]∈zs:=List.getElem_mem hi2
   have e:(((zs.take n').map Int.toNat).map W64).getD i undef= .int .u64 ((zs[i].toNat:Nat):Int):=by
    simp [List.getD_eq_getElem?_getD,List.getElem?_map,show i<n' by omega,List.getElem?_eq_getElem hi2]
   rw [e,hnn _ hmem]
   simp [List.getD_eq_getElem?_getD,List.getElem?_eq_getElem hi2]
  ·intro x hx
   obtain⟨z,hz1,rfl⟩:=List.mem_map.1 hx
   have:=wf_nat (hwf z (List.mem_of_mem_take hz1))
   rw [WB_def];omega
  ·have:=bulk_slice (H:=H) (lits .u64 (zs.take n')) (lits .u64 (zs.drop n'))
   have e:(lits (H:=H) .u64 (zs.take n')).length=n':=by simp [lits];omega
   omega
  ·intro W' he sp hsp
   have hcell':∀i,i<zs.length→W'.cell? (a.add i)=some (.int .u64 (zs.getD i 0)):=fun i hi=>he.cell (hcell i hi)
   by_cases hz0:zs.length=0
   ·have hc0:cap'=0:=by omega
    have hl0:n'=0:=by omega
    subst hc0;subst hl0
    have t0:=shut_ints (enc:=enc) (w:=W') (base:=0) (spare:=sp) (held:=true) (a:=a) (len:=0) (cap:=0) (zs:=zs) 0 Try.underlying22 Try.underlying24 cells_word (Nat.zero_le _) (Nat.le_refl _) hm (by simp [hz0]) hcell' hwf
    exact⟨2,t0⟩
   ·have hspb:sp a.block=true:=hsp (.cell a.block a.off) (MemPlace.mem_row.2 ⟨0,by omega,by simp⟩)
    have t0:=shut_ints (enc:=enc) (w:=W') (base:=0) (spare:=sp) (held:=true) (a:=a) (len:=n') (cap:=cap') (zs:=zs) 0 Try.underlying22 Try.underlying24 cells_word (Nat.zero_le _) hl hm (by simp [hspb,hz]) hcell' hwf
    exact⟨2,t0⟩
structure Rk (k:IntKind) (w:World) (A:Option Addr) (n cap:Nat) (xs:List Int):Prop where
 len:xs.length=n
 get:∀i,i<n→∃a,A=some a∧w.cell? (a.add i)=some (.int k (xs.getD i 0))∧k.min≤xs.getD i 0∧xs.getD i 0≤k.max
 blk:∀a,A=some a→0<cap→a.block<w.heap.size
 le:n≤cap
theorem Rk.ext {k:IntKind}{w w':World}{A:Option Addr}{n cap:Nat}{xs:List Int}(h:Rk k w A n cap xs) (e:Ext w w'):Rk k w' A n cap xs:=
 ⟨h.len,fun i hi=>by obtain⟨a,ha,hc,hb⟩:=h.get i hi;exact⟨a,ha,e.cell hc,hb⟩,fun a ha hc=>Nat.lt_of_lt_of_le (h.blk a ha hc) e.size,h.le⟩
theorem Rk.updL {k:IntKind}{w w':World}{A:Option Addr}{n cap:Nat}{xs:List Int}{g:Nat}(h:Rk k w A n cap xs) (e:Upd g w w') (hne:0<cap→∀a,A=some a→a.block≠g):Rk k w' A n cap xs:=
 ⟨h.len,fun i hi=>by
  obtain⟨a,ha,hc,hb⟩:=h.get i hi
  exact⟨a,ha,e.cell hc (by rw [block_of_add];exact hne (by have:=h.le;omega) a ha),hb⟩,fun a ha hc=>Nat.lt_of_lt_of_le (h.blk a ha hc) e.size,h.le⟩
theorem Rk.at {k:IntKind}{w:World}{A:Option Addr}{n cap:Nat}{xs:List Int}(h:Rk k w A n cap xs){i:Nat}(hi:i<n):∃p,A.map (·.add (i*1))=some p∧w.cell? p=some (.int k (xs.getD i 0))∧k.min≤xs.getD i 0∧xs.getD i 0≤k.max:=by
 obtain⟨a,rfl,h1,h2⟩:=h.get i hi
 exact⟨a.add i,by rw [Nat.mul_one];rfl,h1,h2⟩
theorem open_kcell {H:Type}{enc:TypeId×Value→H}{W:World}{v:Value}{x:DataW H×List MemPlace}{fuel:Nat}{t e:TypeId}{k:IntKind}(ht:Try.prog.underlying t=some (.slice e)) (he:Try.prog.underlying e=some (.int k)) (hc:Try.prog.cellsOf e=1)
  (hf:DataW.trod enc Try.prog W 0 (fun _=>true) true fuel t [v]=some x):
  ∃A n cap xs,v= .slice A n cap∧Rk k W A n cap xs∧n≤Rows.uptoBulk x.1:=by
 rcases open_ints ht he hc hf with⟨hcs,hx⟩ | ⟨a,n,cap,zs,hcs,_,hl,hm,hz,hx,hcell,hwf⟩
 ·obtain rfl:=List.singleton_inj.1 hcs
  subst hx
  exact⟨none,0,0,[],rfl,⟨rfl,fun i hi=>by omega,(fun a ha=>by cases ha),Nat.le_refl _⟩,Nat.zero_le _⟩
 ·obtain rfl:=List.singleton_inj.1 hcs
  subst hx
  simp only [if_true] at hz
  have hblk:0<cap→a.block<W.heap.size:=fun hc=>World.block_lt_of_cell? W (a.add 0) (hcell 0 (by omega)) |> fun h=>by rwa [block_of_add] at h
  have hlen:(zs.take n).length=n:=by rw [List.length_take];omega
  refine⟨some a,n,cap,zs.take n,rfl,⟨hlen,fun i hi=>⟨a,rfl,?_,?_⟩,(fun b hb hc=>by cases hb;exact hblk hc),hl⟩,?_⟩
  ·rw [hcell i (by omega)]
   simp [List.getD_eq_getElem?_getD,hi]
  ·have hi2:i<zs.length:=by omega
   have e:(zs.take n).getD i 0=zs[i]:=by simp [List.getD_eq_getElem?_getD,hi,List.getElem?_eq_getElem hi2]
   rw [e]
   have:=hwf _ (List.getElem_mem hi2)
   simpa [Lit.wf] using this
  ·have h1:=bulk_slice (H:=H) (lits k (zs.take n)) (lits k (zs.drop n))
   have e:(lits (H:=H) k (zs.take n)).length=n:=by simp [lits];omega
   show n≤Rows.uptoBulk (DataW.slice (lits k (zs.take n)) (lits k (zs.drop n)))
   omega
theorem four7 {α:Type}{l:List α}(h:l.length=4):∃a b c d,l= [a,b,c,d]:=by
 match l,h with
 | [a,b,c,d],_=>exact⟨a,b,c,d,rfl⟩
theorem fields_heap:∃f0 f1 f2 f3:Field,Try.prog.underlying 32=some (.struct #[f0,f1,f2,f3])∧f0.type=22∧f0.offset=0∧f1.type=29∧f1.offset=1∧f2.type=24∧f2.offset=2∧f3.type=30∧f3.offset=3:=
 ⟨_,_,_,_,Try.underlying32,rfl,rfl,rfl,rfl,rfl,rfl,rfl,rfl⟩
theorem cells_heap:Try.prog.cellsOf 32=4:=by kernel_rfl
theorem cells_nums7:Try.prog.cellsOf 29=1:=by kernel_rfl
theorem cells_n32s:Try.prog.cellsOf 30=1:=by kernel_rfl
theorem cells_int7:Try.prog.cellsOf 3=1:=by kernel_rfl
theorem cells_i32:Try.prog.cellsOf 21=1:=by kernel_rfl
theorem cells_u64_7:Try.prog.cellsOf 24=1:=by kernel_rfl
set_option maxRecDepth 20000 in
theorem open_heap {H:Type}{enc:TypeId×Value→H}{W:World}{base:Nat}{v:Value}{d:DataW H}{p:List MemPlace}
  (hval:Value.okWide Try.prog W .any base 32 v) (h:DataW.Trod enc Try.prog W 0 (fun _=>true) true 32 v d p):
  ∃(A:Option Addr) (n c:Nat) (xs:List Nat) (B:Option Addr) (m c':Nat) (ps:List Int) (x:Nat) (C:Option Addr) (l c2:Nat) (zs:List Int),v= .agg #[.slice A n c,.slice B m c',.int .u64 ((x:Nat):Int),.slice C l c2]∧
   Rd W A n c xs∧n≤Rows.uptoBulk d∧Rk .i64 W B m c' ps∧m≤Rows.uptoBulk d∧x≤18446744073709551615∧Rk .i32 W C l c2 zs∧l≤Rows.uptoBulk d:=by
 obtain⟨f0,f1,f2,f3,hu,t0,o0,t1,o1,t2,o2,t3,o3⟩:=fields_heap
 obtain⟨fuel,hf0⟩:=h
 obtain⟨ys,n,_,hx,hcl,hyl,hf⟩:=DataW.trod_struct hu hf0
 rw [cells_heap] at hcl
 obtain⟨c0,c1,c2,c3,hcs⟩:=four7 hcl
 obtain⟨y0,y1,y2,y3,rfl⟩:=four7 (show ys.length=4 from hyl)
 obtain⟨vs,rfl⟩:∃vs:Array Value,v= .agg vs:=by
  obtain⟨cs,h1,_⟩:=okWide_struct hu hval
  exact⟨cs,h1⟩
 have hvs:vs.toList= [c0,c1,c2,c3]:=hcs
 obtain rfl:vs= #[c0,c1,c2,c3]:=by
  have:=congrArg List.toArray hvs
  simpa using this
 have g0:=hf 0 f0 rfl
 have g1:=hf 1 f1 rfl
 have g2:=hf 2 f2 rfl
 have g3:=hf 3 f3 rfl
 rw [t0,o0,cells_words] at g0
 rw [t1,o1,cells_nums7] at g1
 rw [t2,o2,cells_u64_7] at g2
 rw [t3,o3,cells_n32s] at g3
 obtain⟨A,m,cap,xs,rfl,hx0,hb0,_⟩:=open_wcell (d:=y0.1) (p:=y0.2) (show DataW.trod enc Try.prog W 0 (fun _=>true) true n 22 [c0]=some y0 from g0)
 obtain⟨B,m',cap',ps,rfl,hx1,hb1⟩:=open_kcell Try.underlying29 Try.underlying3 cells_int7 (show DataW.trod enc Try.prog W 0 (fun _=>true) true n 29 [c1]=some y1 from g1)
 obtain⟨u,hu2,_,hwu⟩:=DataW.trod_int Try.underlying24 (show DataW.trod enc Try.prog W 0 (fun _=>true) true n 24 [c2]=some y2 from g2)
 obtain⟨C,l,cap2,zs,rfl,hx3,hb3⟩:=open_kcell Try.underlying30 Try.underlying21 cells_i32 (show DataW.trod enc Try.prog W 0 (fun _=>true) true n 30 [c3]=some y3 from g3)
 obtain rfl:=List.singleton_inj.1 hu2
 obtain⟨u,rfl⟩:=Int.eq_ofNat_of_zero_le (wf_nat hwu).1
 have hu3:=(wf_nat hwu).2
 simp only [Prod.mk.injEq] at hx
 obtain⟨rfl,_⟩:=hx
 refine⟨A,m,cap,xs,B,m',cap',ps,u,C,l,cap2,zs,rfl,hx0,?_,hx1,?_,by omega,hx3,?_⟩ <;> (simp only [Rows.uptoBulk,List.map_cons,Rows.uptoBulkAll];omega)
end Go.Proofs.Ytgilhcdglaneiaa

namespace Go.Proofs.Ytgilhcdglaneiaa
open Go.RowKit
@[irreducible] def e74:Nat:=1074
theorem e74_eq:e74=1074:=by unfold e74;rfl
@[irreducible] def e98:Nat:=2098
theorem e98_eq:e98=2098:=by unfold e98;rfl
@[irreducible] def e24:Nat:=1024
theorem e24_eq:e24=1024:=by unfold e24;rfl
@[irreducible] def e70:Nat:=970
theorem e70_eq:e70=970:=by unfold e70;rfl
@[irreducible] def e45:Nat:=2045
theorem e45_eq:e45=2045:=by unfold e45;rfl
@[irreducible] def e46:Nat:=2046
theorem e46_eq:e46=2046:=by unfold e46;rfl
def rv (r:Nat):Nat:=if r<4503599627370496 then r else (4503599627370496+r%4503599627370496)*2^(r/4503599627370496-1)
theorem rv_low {r:Nat}(h:r<4503599627370496):rv r=r:=by unfold rv;rw [if_pos h]
theorem rv_form {p m:Nat}(h:p=0∨4503599627370496≤m) (hm:m≤9007199254740992):rv (p*4503599627370496+m)=m*2^p:=by
 by_cases h1:m<4503599627370496
 ·have hp:p=0:=by omega
  subst hp
  rw [Nat.zero_mul,Nat.zero_add,rv_low h1,Nat.pow_zero,Nat.mul_one]
 ·have hn:¬p*4503599627370496+m<4503599627370496:=by omega
  unfold rv
  rw [if_neg hn]
  by_cases h2:m=9007199254740992
  ·subst h2
   have e1:(p*4503599627370496+9007199254740992)/4503599627370496=p+2:=by omega
   have e2:(p*4503599627370496+9007199254740992)%4503599627370496=0:=by omega
   rw [e1,e2,show p+2-1=p+1 from rfl,Nat.pow_succ]
   omega
  ·have e1:(p*4503599627370496+m)/4503599627370496=p+1:=by omega
   have e2:(p*4503599627370496+m)%4503599627370496=m-4503599627370496:=by omega
   rw [e1,e2,show p+1-1=p from rfl,show 4503599627370496+(m-4503599627370496)=m by omega]
theorem rv_parts (r:Nat):∃p m,r=p*4503599627370496+m∧(p=0∨4503599627370496≤m)∧m<9007199254740992∧rv r=m*2^p∧rv (r+1)=(m+1)*2^p:=by
 by_cases h:r<4503599627370496
 ·refine⟨0,r,by omega,Or.inl rfl,by omega,?_,?_⟩
  ·have:=rv_form (p:=0) (m:=r) (Or.inl rfl) (by omega);rwa [Nat.zero_mul,Nat.zero_add] at this
  ·have:=rv_form (p:=0) (m:=r+1) (Or.inl rfl) (by omega);rwa [Nat.zero_mul,Nat.zero_add] at this
 ·refine⟨r/4503599627370496-1,4503599627370496+r%4503599627370496,by omega,Or.inr (by omega),by omega,?_,?_⟩
  ·have:=rv_form (p:=r/4503599627370496-1) (m:=4503599627370496+r%4503599627370496) (Or.inr (by omega)) (by omega)
   rwa [show (r/4503599627370496-1)*4503599627370496+(4503599627370496+r%4503599627370496)=r by omega] at this
  ·have:=rv_form (p:=r/4503599627370496-1) (m:=4503599627370496+r%4503599627370496+1) (Or.inr (by omega)) (by omega)
   rwa [show (r/4503599627370496-1)*4503599627370496+(4503599627370496+r%4503599627370496+1)=r+1 by omega] at this
theorem rv_lt_succ (r:Nat):rv r<rv (r+1):=by
 obtain⟨p,m,_,_,_,e1,e2⟩:=rv_parts r
 rw [e1,e2]
 exact (Nat.mul_lt_mul_right (Nat.two_pow_pos p)).2 (Nat.lt_succ_self m)
theorem rv_lt {r s:Nat}(h:r<s):rv r<rv s:=by
 induction s with
 | zero=>omega
 | succ s ih=>
  by_cases e:r=s
  ·subst e;exact rv_lt_succ r
  ·exact Nat.lt_trans (ih (by omega)) (rv_lt_succ s)
theorem rv_le {r s:Nat}(h:r≤s):rv r≤rv s:=by
 rcases Nat.lt_or_eq_of_le h with h | h
 ·exact Nat.le_of_lt (rv_lt h)
 ·rw [h];exact Nat.le_refl _
theorem rv_inj {r s:Nat}(h:rv r=rv s):r=s:=by
 rcases Nat.lt_trichotomy r s with h1 | h1 | h1
 ·have:=rv_lt h1;omega
 ·exact h1
 ·have:=rv_lt h1;omega
structure IsNear (X D r:Nat):Prop where
 lo:∀s,s+1=r→D*(rv s+rv r)≤2*X∧(D*(rv s+rv r)=2*X→r%2=0)
 hi:2*X≤D*(rv r+rv (r+1))∧(2*X=D*(rv r+rv (r+1))→r%2=0)
theorem IsNear.not_lt {X D r s:Nat}(hD:0<D) (h:IsNear X D r) (h':IsNear X D s) (hlt:r<s):False:=by
 obtain⟨t,rfl⟩:∃t,s=t+1:=⟨s-1,by omega⟩
 obtain⟨a,b⟩:=h'.lo t rfl
 obtain⟨c,d⟩:=h.hi
 have h1:rv r≤rv t:=rv_le (by omega)
 have h2:rv (r+1)≤rv (t+1):=rv_le (by omega)
 have h3:D*(rv r+rv (r+1))≤D*(rv t+rv (t+1)):=Nat.mul_le_mul_left D (by omega)
 have e:D*(rv r+rv (r+1))=D*(rv t+rv (t+1)):=by omega
 have e2:rv r+rv (r+1)=rv t+rv (t+1):=Nat.eq_of_mul_eq_mul_left hD e
 have e3:rv r=rv t:=by omega
 have e4:=rv_inj e3
 subst e4
 have:=b (by omega)
 have:=d (by omega)
 omega
theorem IsNear.uniq {X D r s:Nat}(hD:0<D) (h:IsNear X D r) (h':IsNear X D s):r=s:=by
 rcases Nat.lt_trichotomy r s with h1 | h1 | h1
 ·exact (h.not_lt hD h' h1).elim
 ·exact h1
 ·exact (h'.not_lt hD h h1).elim
theorem IsNear.cross {X D Y E r:Nat}(hD:0<D) (hE:0<E) (e:X*E=Y*D) (h:IsNear X D r):IsNear Y E r:=by
 have key:∀v:Nat,(D*v≤2*X→E*v≤2*Y)∧(2*X≤D*v→2*Y≤E*v)∧(E*v=2*Y→D*v=2*X):=by
  intro v
  have e1:E*(D*v)=D*(E*v):=by rw [←Nat.mul_assoc,←Nat.mul_assoc,Nat.mul_comm E D]
  have e2:E*(2*X)=D*(2*Y):=by rw [Nat.mul_left_comm,Nat.mul_left_comm D,Nat.mul_comm E,e,Nat.mul_comm Y]
  refine⟨fun h=>?_,fun h=>?_,fun h=>?_⟩
  ·have:=Nat.mul_le_mul_left E h
   rw [e1,e2] at this
   exact Nat.le_of_mul_le_mul_left this hD
  ·have:=Nat.mul_le_mul_left E h
   rw [e1,e2] at this
   exact Nat.le_of_mul_le_mul_left this hD
  ·have:D*(E*v)=D*(2*Y):=by rw [h]
   rw [←e1,←e2] at this
   exact Nat.eq_of_mul_eq_mul_left hE this
 refine⟨fun s hs=>⟨(key _).1 (h.lo s hs).1,fun h2=>(h.lo s hs).2 ((key _).2.2 h2)⟩,(key _).2.1 h.hi.1,fun h2=>h.hi.2 ((key _).2.2 h2.symm).symm⟩
def rhe (m0 R G:Nat):Nat:=if G<2*R∨(G=2*R∧m0%2=1) then m0+1 else m0
theorem rhe_spec {X G:Nat}(hG:0<G):∃m,rhe (X/G) (X%G) G=m∧(m=X/G∨m=X/G+1)∧(∀k,k+1=m→G*(k+m)≤2*X∧(G*(k+m)=2*X→m%2=0))∧2*X≤G*(m+(m+1))∧(2*X=G*(m+(m+1))→m%2=0):=by
 have e:=Nat.div_add_mod X G
 have hlt:=Nat.mod_lt X hG
 generalize X/G=q at*
 generalize X%G=R at*
 refine⟨_,rfl,?_⟩
 unfold rhe
 have e0:G*(q+(q+1))=2*(G*q)+G:=by simp only [Nat.mul_add,Nat.mul_one];omega
 have e1:G*(q+1+(q+1+1))=2*(G*q)+3*G:=by simp only [Nat.mul_add,Nat.mul_one];omega
 split
 ·rename_i h
  refine⟨Or.inr rfl,fun k hk=>?_,?_,fun h2=>?_⟩
  ·have hk:k=q:=by omega
   subst hk
   rw [e0]
   refine⟨by omega,fun h2=>by omega⟩
  ·rw [e1];omega
  ·rw [e1] at h2;omega
 ·rename_i h
  refine⟨Or.inl rfl,fun k hk=>?_,?_,fun h2=>?_⟩
  ·have e2:G*(k+q)=2*(G*q)-G:=by
    subst hk
    have:G*(k+(k+1))+G=2*(G*(k+1)):=by simp only [Nat.mul_add,Nat.mul_one];omega
    omega
   have:G≤G*q:=Nat.le_mul_of_pos_right G (by omega)
   rw [e2]
   refine⟨by omega,fun h2=>by omega⟩
  ·rw [e0];omega
  ·rw [e0] at h2;omega
theorem near_far0 {a b p X m:Nat}(e:p+a=2*b) (h:b≤X) (hp:0<a):p≤2*X∧(p=2*X→m%2=0):=⟨by omega,fun h=>by omega⟩
theorem near_far {a X m:Nat}(h:a*2*4503599627370496≤X) (hp:0<a):a*18014398509481983≤2*X∧(a*18014398509481983=2*X→m%2=0):=
 near_far0 (by omega) h hp
theorem near_of {X D p:Nat}(hD:0<D) (h1:X<D*2^p*9007199254740992) (h2:p=0∨D*2^p*4503599627370496≤X):
  IsNear X D (p*4503599627370496+rhe (X/(D*2^p)) (X%(D*2^p)) (D*2^p)):=by
 have hG:0<D*2^p:=Nat.mul_pos hD (Nat.two_pow_pos p)
 obtain⟨m,hm,hc,hlo,hhi⟩:=rhe_spec (X:=X) hG
 rw [hm]
 have hq1:X/(D*2^p)<9007199254740992:=(Nat.div_lt_iff_lt_mul hG).2 (by rw [Nat.mul_comm];exact h1)
 have hq2:p=0∨4503599627370496≤X/(D*2^p):=by
  rcases h2 with h | h
  ·exact Or.inl h
  ·exact Or.inr ((Nat.le_div_iff_mul_le hG).2 (by rw [Nat.mul_comm];exact h))
 have hf:p=0∨4503599627370496≤m:=by omega
 have hr:rv (p*4503599627370496+m)=m*2^p:=rv_form hf (by omega)
 have hpar:(p*4503599627370496+m)%2=m%2:=by omega
 have e:∀v,D*(v*2^p)=D*2^p*v:=fun v=>by rw [Nat.mul_assoc,Nat.mul_comm v]
 refine⟨fun s hs=>?_,?_⟩
 ·rw [hpar,hr]
  by_cases hb:p=0∨4503599627370496<m
  ·obtain⟨k,rfl⟩:∃k,m=k+1:=⟨m-1,by rcases hb with h | h <;> omega⟩
   have hs2:s=p*4503599627370496+k:=by omega
   have hr2:rv s=k*2^p:=by rw [hs2];exact rv_form (by omega) (by omega)
   rw [hr2,←Nat.add_mul,e]
   exact hlo k rfl
  ·have hm2:m=4503599627370496:=by omega
   obtain⟨p',rfl⟩:∃p',p=p'+1:=⟨p-1,by omega⟩
   have hs2:s=p'*4503599627370496+9007199254740991:=by omega
   have hr2:rv s=9007199254740991*2^p':=by rw [hs2];exact rv_form (by omega) (by omega)
   have h2':D*2^(p'+1)*4503599627370496≤X:=by omega
   have e0:9007199254740991*2^p'+4503599627370496*(2^p'*2)=2^p'*18014398509481983:=by omega
   have e3:D*(rv s+m*2^(p'+1))=D*2^p'*18014398509481983:=by rw [hr2,hm2,Nat.pow_succ,e0,Nat.mul_assoc D]
   have e4:D*2^(p'+1)=D*2^p'*2:=by rw [Nat.pow_succ,Nat.mul_assoc]
   have hpos:0<D*2^p':=Nat.mul_pos hD (Nat.two_pow_pos p')
   rw [e3]
   rw [e4] at h2'
   exact near_far h2' hpos
 ·rw [hpar]
  have hup:(m+1)*2^p≤rv (p*4503599627370496+m+1)∧(rv (p*4503599627370496+m+1)≠(m+1)*2^p→m%2=0):=by
   by_cases hb:m=9007199254740992
   ·refine⟨?_,fun _=>by omega⟩
    have:rv ((p+1)*4503599627370496+4503599627370497)=4503599627370497*2^(p+1):=rv_form (Or.inr (by omega)) (by omega)
    rw [show p*4503599627370496+m+1=(p+1)*4503599627370496+4503599627370497 by omega,this,hb,Nat.pow_succ]
    omega
   ·have:rv (p*4503599627370496+(m+1))=(m+1)*2^p:=rv_form (by omega) (by omega)
    rw [Nat.add_assoc,this]
    exact⟨Nat.le_refl _,fun h=>absurd rfl h⟩
  rw [hr]
  have e5:D*(m*2^p+(m+1)*2^p)=D*2^p*(m+(m+1)):=by rw [←Nat.add_mul,e]
  have h6:D*(m*2^p+(m+1)*2^p)≤D*(m*2^p+rv (p*4503599627370496+m+1)):=Nat.mul_le_mul_left D (by omega)
  refine⟨by rw [e5] at h6;omega,fun h=>?_⟩
  by_cases hz:rv (p*4503599627370496+m+1)=(m+1)*2^p
  ·rw [hz,e5] at h
   exact hhi.2 h
  ·exact hup.2 hz
def nearR (X D:Nat):Nat:=
 let p:=(X/D).log2-52
 p*4503599627370496+rhe (X/(D*2^p)) (X%(D*2^p)) (D*2^p)
theorem nearR_is {X D:Nat}(hD:0<D):IsNear X D (nearR X D):=by
 unfold nearR
 have hmd:=Nat.div_add_mod X D
 have hml:=Nat.mod_lt X hD
 refine near_of hD ?_ ?_
 ·have h1:X/D<2^((X/D).log2-52)*9007199254740992:=by
   by_cases h0:X/D=0
   ·rw [h0];exact Nat.mul_pos (Nat.two_pow_pos _) (by decide)
   ·have h2:X/D<2^((X/D).log2+1):=Nat.lt_log2_self
    refine Nat.lt_of_lt_of_le h2 ?_
    rw [show (9007199254740992:Nat)=2^53 from rfl,←Nat.pow_add]
    exact Nat.pow_le_pow_right (by decide) (by omega)
  rw [Nat.mul_assoc]
  rw [Nat.mul_comm]
  exact (Nat.div_lt_iff_lt_mul hD).1 h1
 ·by_cases hp:(X/D).log2-52=0
  ·exact Or.inl hp
  ·right
   have h0:X/D≠0:=fun h=>hp (by rw [h];rfl)
   have h2:2^(X/D).log2≤X/D:=Nat.log2_self_le h0
   have h3:2^((X/D).log2-52)*4503599627370496≤X/D:=by
    rw [show (4503599627370496:Nat)=2^52 from rfl,←Nat.pow_add,show (X/D).log2-52+52=(X/D).log2 by omega]
    exact h2
   rw [Nat.mul_assoc,Nat.mul_comm]
   exact (Nat.le_div_iff_mul_le hD).1 h3
theorem nearR_eq {X D r:Nat}(hD:0<D) (h:IsNear X D r):nearR X D=r:=(nearR_is hD).uniq hD h
theorem nearR_cross {X D Y E:Nat}(hD:0<D) (hE:0<E) (e:X*E=Y*D):nearR X D=nearR Y E:=(nearR_eq hE ((nearR_is hD).cross hD hE e)).symm
theorem IsNear.self {D r:Nat}(hD:0<D):IsNear (D*rv r) D r:=by
 refine⟨fun s hs=>?_,?_,fun h=>?_⟩
 ·have h1:rv s<rv r:=rv_lt (by omega)
  have h2:D*(rv s+rv r)<D*(2*rv r):=(Nat.mul_lt_mul_left hD).2 (by omega)
  have e:D*(2*rv r)=2*(D*rv r):=Nat.mul_left_comm _ _ _
  exact⟨by omega,fun h=>by omega⟩
 ·have h1:=rv_lt_succ r
  have h2:D*(2*rv r)≤D*(rv r+rv (r+1)):=Nat.mul_le_mul_left D (by omega)
  have e:D*(2*rv r)=2*(D*rv r):=Nat.mul_left_comm _ _ _
  omega
 ·have h1:=rv_lt_succ r
  have h2:D*(2*rv r)<D*(rv r+rv (r+1)):=(Nat.mul_lt_mul_left hD).2 (by omega)
  have e:D*(2*rv r)=2*(D*rv r):=Nat.mul_left_comm _ _ _
  omega
theorem nearR_self {D r:Nat}(hD:0<D):nearR (D*rv r) D=r:=nearR_eq hD (IsNear.self hD)
theorem nearR_ge {X D s:Nat}(hD:0<D) (he:(s+1)%2=0):s+1≤nearR X D↔D*(rv s+rv (s+1))≤2*X:=by
 have h:=nearR_is (X:=X) hD
 constructor
 ·intro hle
  obtain⟨t,ht⟩:∃t,nearR X D=t+1:=⟨nearR X D-1,by omega⟩
  rw [ht] at h hle
  have h1:=(h.lo t rfl).1
  have h2:rv s≤rv t:=rv_le (by omega)
  have h3:rv (s+1)≤rv (t+1):=rv_le (by omega)
  exact Nat.le_trans (Nat.mul_le_mul_left D (by omega)) h1
 ·intro hle
  refine Nat.le_of_not_lt fun hlt=>?_
  have h1:=h.hi.1
  have h2:rv (nearR X D)≤rv s:=rv_le (by omega)
  have h3:rv (nearR X D+1)≤rv (s+1):=rv_le (by omega)
  have h4:D*(rv (nearR X D)+rv (nearR X D+1))≤D*(rv s+rv (s+1)):=Nat.mul_le_mul_left D (by omega)
  have e:rv (nearR X D)+rv (nearR X D+1)=rv s+rv (s+1):=Nat.eq_of_mul_eq_mul_left hD (by omega)
  have e2:nearR X D=s:=rv_inj (by omega)
  have h5:=h.hi.2 (by omega)
  omega
theorem rhe_scale {m R G k:Nat}(hk:0<k):rhe m (R*k) (G*k)=rhe m R G:=by
 unfold rhe
 have e1:(G*k<2*(R*k))↔(G<2*R):=by rw [←Nat.mul_assoc];exact Nat.mul_lt_mul_right hk
 have e2:(G*k=2*(R*k))↔(G=2*R):=by rw [←Nat.mul_assoc];exact⟨fun h=>Nat.eq_of_mul_eq_mul_right hk h,fun h=>by rw [h]⟩
 simp only [e1,e2]
theorem near_code {X D N E d p:Nat}(hD:0<D) (hE:0<E) (hd:0<d) (hx:N*2^p*D=X*(E*2^d)) (h1:blen (N/E)≤d+53) (h2:p=0∨blen (N/E)=d+53):
  nearR X D=p*4503599627370496+(if 2^(d-1)<N/E%2^d∨(N/E%2^d=2^(d-1)∧(N%E≠0∨N/E/2^d%2=1)) then N/E/2^d+1 else N/E/2^d):=by
 have hH:0<2^d:=Nat.two_pow_pos d
 have hP:0<2^p:=Nat.two_pow_pos p
 have hG:0<E*2^d:=Nat.mul_pos hE hH
 have eN:=Nat.div_add_mod N E
 have hR:=Nat.mod_lt N hE
 have eq:=Nat.div_add_mod (N/E) (2^d)
 have hC:=Nat.mod_lt (N/E) hH
 have hdd:N/(E*2^d)=N/E/2^d:=by rw [Nat.div_div_eq_div_mul]
 have hmm:N%(E*2^d)=E*(N/E%2^d)+N%E:=by
  have e3:=Nat.div_add_mod N (E*2^d)
  rw [hdd] at e3
  have e4:E*(N/E)=E*2^d*(N/E/2^d)+E*(N/E%2^d):=by
   rw [Nat.mul_assoc,←Nat.mul_add,eq]
  omega
 have hhalf:2^d=2*2^(d-1):=by
  obtain⟨c,rfl⟩:∃c,d=c+1:=⟨d-1,by omega⟩
  rw [Nat.pow_succ',Nat.add_sub_cancel]
 have key:rhe (N/(E*2^d)) (N%(E*2^d)) (E*2^d)=(if 2^(d-1)<N/E%2^d∨(N/E%2^d=2^(d-1)∧(N%E≠0∨N/E/2^d%2=1)) then N/E/2^d+1 else N/E/2^d):=by
  unfold rhe
  rw [hdd,hmm]
  generalize N/E%2^d=c at*
  generalize N/E/2^d=m0 at*
  generalize N%E=r at*
  rw [hhalf]
  generalize 2^(d-1)=hf at*
  have e0:E*(2*hf)=2*(E*hf):=Nat.mul_left_comm _ _ _
  rw [e0]
  rcases Nat.lt_trichotomy c hf with hc | hc | hc
  ·have h3:E*(c+1)≤E*hf:=Nat.mul_le_mul_left E hc
   rw [Nat.mul_add,Nat.mul_one] at h3
   rw [if_neg (by omega),if_neg (by omega)]
  ·subst hc
   by_cases h:r≠0∨m0%2=1
   ·rw [if_pos (by omega),if_pos (by omega)]
   ·rw [if_neg (by omega),if_neg (by omega)]
  ·have h3:E*(hf+1)≤E*c:=Nat.mul_le_mul_left E hc
   rw [Nat.mul_add,Nat.mul_one] at h3
   rw [if_pos (by omega),if_pos (Or.inl hc)]
 rw [←key]
 have e5:E*2^d*2^p=E*2^d*2^p:=rfl
 have hq1:N/E<2^d*9007199254740992:=by
  refine Nat.lt_of_lt_of_le (lt_blen _) ?_
  rw [show (9007199254740992:Nat)=2^53 from rfl,←Nat.pow_add]
  exact Nat.pow_le_pow_right (by decide) h1
 have hX1:N<E*2^d*9007199254740992:=by
  rw [Nat.mul_assoc,Nat.mul_comm]
  exact (Nat.div_lt_iff_lt_mul hE).1 hq1
 have hn:=near_of (X:=N*2^p) (D:=E*2^d) (p:=p) hG (by
  rw [Nat.mul_right_comm]
  exact (Nat.mul_lt_mul_right hP).2 hX1) (by
  rcases h2 with h | h
  ·exact Or.inl h
  ·right
   have hq0:N/E≠0:=fun e=>by rw [e,blen_zero] at h;omega
   have h3:=blen_le_self hq0
   have h4:2^d*4503599627370496≤N/E:=by
    rw [show (4503599627370496:Nat)=2^52 from rfl,←Nat.pow_add]
    rw [h] at h3
    exact h3
   rw [Nat.mul_right_comm]
   refine Nat.mul_le_mul_right _ ?_
   rw [Nat.mul_assoc,Nat.mul_comm]
   exact (Nat.le_div_iff_mul_le hE).1 h4)
 rw [Nat.mul_div_mul_right _ _ hP,Nat.mul_mod_mul_right,rhe_scale hP] at hn
 exact nearR_eq hD (hn.cross hG hD hx)
theorem near_tiny {X D:Nat}(hD:0<D) (h:2*X<D):nearR X D=0:=by
 refine nearR_eq hD ⟨fun s hs=>by omega,?_,fun h2=>?_⟩
 ·rw [rv_low (by omega),rv_low (by omega)];omega
 ·rfl
theorem e98_45:(2:Nat)^e98=9007199254740992*2^e45:=by
 have h:e98=53+e45:=by rw [e98_eq,e45_eq]
 rw [h,Nat.pow_add]
theorem rung45 {p:Nat}(h:p=2045):p*4503599627370496+9007199254740991=9218868437227405311:=by subst h;decide
theorem rung46 {p:Nat}(h:p=2046):p*4503599627370496+4503599627370496=9218868437227405312:=by subst h;decide
theorem rv_top:rv 9218868437227405311=9007199254740991*2^e45:=by
 have h:=rv_form (p:=e45) (m:=9007199254740991) (Or.inr (by decide)) (by decide)
 rw [rung45 e45_eq] at h
 exact h
theorem rv_inf:rv 9218868437227405312=2^e98:=by
 have h:=rv_form (p:=e46) (m:=4503599627370496) (Or.inr (by decide)) (by decide)
 rw [rung46 e46_eq] at h
 have e:e46=e45+1:=by rw [e46_eq,e45_eq]
 rw [h,e98_45,e,Nat.pow_succ]
 omega
theorem near_huge {X D:Nat}(hD:0<D) (h:D*(2^e98*2)≤X):9218868437227405312≤nearR X D:=by
 have h1:(9218868437227405311+1)≤nearR X D↔_:=nearR_ge hD (by decide)
 refine h1.2 ?_
 rw [show 9218868437227405311+1=9218868437227405312 from rfl,rv_top,rv_inf,e98_45]
 rw [e98_45] at h
 have h3:D*(9007199254740991*2^e45+9007199254740992*2^e45)≤D*(9007199254740992*2^e45*2):=Nat.mul_le_mul_left D (by omega)
 omega
theorem blen_quot {N E:Nat}(hE:0<E) (h:blen N=blen E+55):blen (N/E)=55∨blen (N/E)=56:=by
 have hN:N≠0:=fun e=>by rw [e,blen_zero] at h;omega
 have h1:=blen_le_self hN
 have h2:=lt_blen N
 have h3:=blen_le_self (n:=E) (by omega)
 have h4:=lt_blen E
 have hb:blen E≠0:=fun e=>by have:=blen_eq_zero.1 e;omega
 have hlo:2^54≤N/E:=by
  refine (Nat.le_div_iff_mul_le hE).2 (Nat.le_trans (Nat.mul_le_mul_left _ (Nat.le_of_lt h4)) ?_)
  rw [←Nat.pow_add]
  exact Nat.le_trans (Nat.pow_le_pow_right (by decide) (by omega)) h1
 have hhi:N/E<2^56:=by
  refine (Nat.div_lt_iff_lt_mul hE).2 (Nat.lt_of_lt_of_le h2 ?_)
  refine Nat.le_trans ?_ (Nat.mul_le_mul_left _ h3)
  rw [←Nat.pow_add]
  exact Nat.pow_le_pow_right (by decide) (by omega)
 by_cases hc:N/E<2^55
 ·exact Or.inl (blen_unique hc (Or.inr hlo))
 ·exact Or.inr (blen_unique hhi (Or.inr (by omega)))
theorem blen_shl {n s:Nat}(h:n≠0):blen (n*2^s)=blen n+s:=by
 refine blen_unique ?_ (Or.inr ?_)
 ·rw [Nat.pow_add];exact (Nat.mul_lt_mul_right (Nat.two_pow_pos s)).2 (lt_blen n)
 ·have hb:blen n≠0:=fun e=>h (blen_eq_zero.1 e)
  rw [show blen n+s-1=(blen n-1)+s by omega,Nat.pow_add]
  exact Nat.mul_le_mul_right _ (blen_le_self h)
def nearB (X D:Nat):Nat:=min (nearR X D) 9218868437227405312
end Go.Proofs.Ytgilhcdglaneiaa

namespace Go.Proofs.Ytgilhcdglaneiaa
open Go.RowKit
open Ieee
theorem dbl_sw:double.signWeight=9223372036854775808:=by decide
theorem dbl_bin:double.binade=4503599627370496:=by decide
theorem dbl_inf:double.infRung=9218868437227405312:=by decide
theorem dbl_lp:double.leastPlace= -1074:=by decide
def mg (b:Nat):Nat:=b%9223372036854775808
def fin (b:Nat):Prop:=mg b<9218868437227405312
instance (b:Nat):Decidable (fin b):=inferInstanceAs (Decidable (_<_))
theorem read_fin {b:Nat}(h:fin b):∃m e,double.read b= .number (b/9223372036854775808%2==1) m e∧(m=0↔mg b=0):=by
 unfold fin mg at h
 unfold Format.read mg
 simp only [dbl_sw,dbl_bin,dbl_inf]
 by_cases h1:b%9223372036854775808<4503599627370496
 ·exact⟨_,_,by rw [if_pos h1],Iff.rfl⟩
 ·exact⟨_,_,by rw [if_neg h1,if_pos h],by omega⟩
theorem read_not {b:Nat}(h:¬fin b):(∃s,double.read b= .infinity s)∨(∃s t,double.read b= .nan s t):=by
 unfold fin mg at h
 unfold Format.read
 simp only [dbl_sw,dbl_bin,dbl_inf]
 rw [if_neg (by omega),if_neg (by omega)]
 by_cases h1:b%9223372036854775808=9218868437227405312
 ·exact Or.inl ⟨_,by rw [if_pos h1]⟩
 ·exact Or.inr ⟨_,_,by rw [if_neg h1]⟩
theorem read_zero:double.read 0= .number false 0 (-1074):=by decide
theorem order_zero {b:Nat}(h:fin b):double.order b 0=some (if mg b=0 then .eq else if b/9223372036854775808%2=1 then .lt else .gt):=by
 obtain⟨m,e,hr,hz⟩:=read_fin h
 unfold Format.order
 rw [hr,read_zero]
 simp only [Datum.order]
 have e0:signed false 0 (-1074-min e (-1074)).toNat=0:=by unfold signed;simp
 rw [e0]
 generalize (e-min e (-1074)).toNat=k
 have hk:m <<< k=m*2^k:=Nat.shiftLeft_eq m k
 have hp:0<2^k:=Nat.two_pow_pos k
 congr 1
 by_cases h0:mg b=0
 ·have hm:m=0:=hz.2 h0
  subst hm
  rw [if_pos h0]
  unfold signed
  simp
 ·have hm:0<m:=Nat.pos_of_ne_zero fun e=>h0 (hz.1 e)
  have hmk:0<m*2^k:=Nat.mul_pos hm hp
  rw [if_neg h0]
  unfold signed
  rw [hk]
  by_cases hs:b/9223372036854775808%2=1
  ·rw [if_pos hs,hs]
   simp only [beq_self_eq_true,if_true]
   rw [Int.compare_eq_lt];omega
  ·have hs0:b/9223372036854775808%2=0:=by omega
   rw [if_neg hs,hs0]
   simp only [show ((0:Nat)==1)=false from rfl,Bool.false_eq_true,if_false]
   rw [Int.compare_eq_gt];omega
theorem order_zero_not {b:Nat}(h:¬fin b):(double.order b 0==some .eq)=false:=by
 unfold Format.order
 rw [read_zero]
 rcases read_not h with⟨s,hr⟩ | ⟨s,t,hr⟩
 ·rw [hr];cases s <;> rfl
 ·rw [hr];rfl
theorem sub_fin {b:Nat}(h:fin b):double.sub b b=some 0:=by
 obtain⟨m,e,hr,hz⟩:=read_fin h
 unfold Format.sub
 rw [hr]
 simp only [Datum.opposite,Datum.sum,Int.min_self,Int.sub_self]
 have e1:∀s:Bool,signed s m (Int.toNat 0)+signed (!s) m (Int.toNat 0)=0:=by
  intro s;unfold signed;cases s <;> simp <;> omega
 rw [e1]
 simp only [if_true,Int.natAbs_zero,Option.map_some]
 have e2:∀s:Bool,(s&& !s)=false:=by decide
 rw [e2]
 unfold Format.write Format.nearest Format.word
 simp
theorem sub_not {b:Nat}(h:¬fin b):double.sub b b=none:=by
 unfold Format.sub
 rcases read_not h with⟨s,hr⟩ | ⟨s,t,hr⟩
 ·rw [hr];cases s <;> rfl
 ·rw [hr];rfl
end Go.Proofs.Ytgilhcdglaneiaa

namespace Go.Proofs.Ytgilhcdglaneiaa
open Go.RowKit
section
variable {P:Program}{Q:Exit→Act→World→Prop}{n:Nat}{l:Fr}{w:World}{ops:Array Oper}{rest:List Oper}{d:Nat}{op:Op}{ty:TypeId}{pos:String}{af:Array Edge}{gd:Option (Nat×Bool)}
def notEq:BinOp→Bool
 | .eql=>false
 | .neq=>false
 | _=>true
theorem run_op {o:BinOp}{t:TypeId}{x y:Operand}{u v r:Value}(ho:notEq o=true) (hb:(binOp o t u v).run P w= .ok r w):((do eqGuard o t x y u v;binOp o t u v):Sem Value).run P w= .ok r w:=by
 cases o <;> first | (cases ho;done) | (simp only [eqGuard,Sem.run_bind];exact hb) | (simp [eqGuard,Sem.run_bind,hb])
theorem wl_op {o:BinOp}{t t':TypeId}{x y:Operand}{u v r:Value}(hw:guardB ops l gd=some true) (hx:evo l x=some u) (hy:evo l y=some v) (ho:notEq o=true) (hb:∀w,(binOp o t u v).run P w= .ok r w) (hn:d<n)
  (h:wl P ops Q n rest ((d,r)::l) w):wl P ops Q n (⟨some d,.binOp o t x y t',ty,pos,af,gd⟩::rest) l w:=
 wl_val hw hn (fun a' ha=>by
  have e:((do eqGuard o t x y (a'.eval x) (a'.eval y);binOp o t (a'.eval x) (a'.eval y)):Sem Value).run P w= .ok r w:=by
   rw [ha.ev hx,ha.ev hy];exact run_op ho (hb w)
  show ((((do eqGuard o t x y (a'.eval x) (a'.eval y);binOp o t (a'.eval x) (a'.eval y)):Sem Value)>>=fun r=>pure (Next.value r)):Sem Next).run P w=_
  rw [Sem.run_bind,e];rfl) h
theorem wl_pureE {v v':Value}(hw:guardB ops l gd=some true) (hk:known l op=true) (hn:d<n) (hr:(execOp (rho l) ⟨some d,op,ty,pos,af,gd⟩).run P w= .ok (.value v) w) (e:v=v')
  (h:wl P ops Q n rest ((d,v')::l) w):wl P ops Q n (⟨some d,op,ty,pos,af,gd⟩::rest) l w:=wl_pure hw hk hn hr (by rw [e];exact h)
end
theorem u64_and1 {x:Nat}(hx:x≤18446744073709551615) (P:Program) (t:TypeId) (w:World):(binOp .and t (.int .u64 (x:Int)) (.int .u64 1)).run P w= .ok (.int .u64 ((x%2:Nat):Int)) w:=by
 have e:=and_one_u64 (x:Int) (by omega) (by omega)
 have e2:(binOp .and t (.int .u64 (x:Int)) (.int .u64 1)).run P w= .ok (.int .u64 (bits BinOp.and IntKind.u64 (x:Int) 1)) w:=rfl
 rw [e2,e,Int.natCast_emod];rfl
theorem cv_u64 {x:Nat}(h:x≤18446744073709551615):Value.int .u64 (IntKind.u64.wrap (x:Int))= .int .u64 (x:Int):=by rw [IntWalk.u64_in _ ⟨by omega,by omega⟩]
theorem cv_i64 {x:Nat}(h:x≤9223372036854775807):Value.int .i64 (IntKind.i64.wrap (x:Int))= .int .i64 (x:Int):=by rw [IntWalk.i64_in _ ⟨by omega,by omega⟩]
abbrev I6 (x:Nat):Value:= .int .i64 (x:Int)
structure Ri (b:Nat) (w:World) (A:Option Addr) (n cap:Nat) (ds:List Nat):Prop where
 rv:Rv w 1 A n cap (ds.map I6)
 wf:Wfb b ds
theorem Ri.ext {b:Nat}{w w':World}{A:Option Addr}{n cap:Nat}{xs:List Nat}(h:Ri b w A n cap xs) (e:Ext w w'):Ri b w' A n cap xs:=⟨h.rv.ext e,h.wf⟩
theorem Ri.len {b:Nat}{w:World}{A:Option Addr}{n cap:Nat}{xs:List Nat}(h:Ri b w A n cap xs):xs.length=n:=by simpa using h.rv.len
theorem Ri.get {b:Nat}(hb:0<b){w:World}{A:Option Addr}{n cap:Nat}{xs:List Nat}(h:Ri b w A n cap xs){i:Nat}(hi:i<n):
  ∃a x,A=some a∧Hid (xs.getD i 0=x)∧x<b∧w.cell? (a.add i)=some (.int .i64 (x:Int)):=by
 obtain⟨a,ha,hc⟩:=h.rv.get i (by omega)
 have hl:i<xs.length:=by rw [h.len];exact hi
 refine⟨a,_,ha,rfl,Wfb_getD hb h.wf i,?_⟩
 rw [hc]
 simp [List.getD_eq_getElem?_getD,List.getElem?_map,List.getElem?_eq_getElem hl]
theorem Bk.digit {b:Nat}(hb:0<b){w:World}{g:Nat}{t:TypeId}{xs:List Nat}(h:Bk w g t (xs.map I6)) (hw:Wfb b xs){i:Nat}(hi:i<xs.length):
  ∃x,Hid (xs.getD i 0=x)∧x<b∧w.cell? ⟨g,i,none⟩=some (.int .i64 (x:Int)):=by
 refine⟨_,rfl,Wfb_getD hb hw i,?_⟩
 rw [h.cell (by simpa using hi)]
 simp [List.getD_eq_getElem?_getD,List.getElem?_map,List.getElem?_eq_getElem hi]
theorem Rv.take {w:World}{s:Nat}{A:Option Addr}{n cap:Nat}{vs:List Value}(h:Rv w s A n cap vs){k m:Nat}(hk:k≤n) (hm:k≤m) (hc:m≤cap):Rv w s A k m (vs.take (k*s)):=by
 have:=h.cut (l:=0) (Nat.zero_le _) hk hm hc
 simp only [Nat.sub_zero,Nat.zero_mul,List.drop_zero] at this
 have e:(if m=0 then A else A.map (·.add 0))=A:=by
  have h0:∀a:Addr,a.add 0=a:=fun a=>by simp [Addr.add]
  split
  ·rfl
  ·cases A <;> simp [h0]
 rwa [e] at this
theorem Own.take {w:World}{base:Nat}{t:TypeId}{s:Nat}{A:Option Addr}{n cap:Nat}{vs:List Value}(h:Own w base t s A n cap vs){k:Nat}(hk:k≤n):Own w base t s A k cap (vs.take (k*s)):=by
 rcases h with⟨rfl,rfl,rfl,rfl⟩ | ⟨g,cs,rfl,hb,hbk,hn,hm,hl,rfl⟩
 ·exact Or.inl ⟨rfl,by omega,rfl,by simp⟩
 ·refine Or.inr ⟨g,cs,rfl,hb,hbk,by omega,hm,hl,?_⟩
  rw [List.take_take,Nat.min_eq_left (Nat.mul_le_mul_right s hk)]
theorem slice_to (A:Option Addr) (c k:Nat):Value.slice (if c=0 then A else A.map (·.add (0*1))) (k-0) (c-0)= .slice A k c:=by
 have h0:A.map (·.add (0*1))=A:=by
  cases A with
  | none=>rfl
  | some a=>simp [add_zero_addr]
 rw [h0,ite_self];rfl
theorem WB_32:WB=4294967296^2:=by decide
theorem Wfb.wf {xs:List Nat}(h:Wfb 4294967296 xs):Wf xs:=fun x hx=>Nat.lt_trans (h x hx) (by decide)
theorem Bk.rd0 {w:World}{g N:Nat}{t:TypeId}{l:List Nat}(h:Bk w g t (l.map W64)) (hw:Wf l) (hl:l.length=N) (hN:N≤9223372036854775807):Rd w (some ⟨g,0,none⟩) N N l:=by
 have:=h.rd hw (o:=0) (n:=N) (cap:=N) (Nat.le_refl _) (by omega) (by rw [len_maxLen];exact hN)
 rwa [List.drop_zero,List.take_of_length_le (Nat.le_of_eq hl)] at this
structure WI (ys l:List Nat) (i:Nat):Prop where
 wf:Wf l
 v:nv l=nb 4294967296 (ys.take i)
 z:∀j,i≤2*j→l.getD j 0=0
 o:i%2=1→l.getD (i/2) 0<4294967296
theorem WI.start (ys:List Nat) (N:Nat):WI ys (List.replicate N 0) 0:=by
 refine⟨fun x hx=>by rw [(List.mem_replicate.1 hx).2];decide,?_,fun j _=>?_,fun h=>by omega⟩
 ·rw [nv_nb,nb_zeros];rfl
 ·rw [List.getD_eq_getElem?_getD]
  by_cases h:j<N
  ·rw [List.getElem?_replicate_of_lt h];rfl
  ·rw [List.getElem?_eq_none (by rw [List.length_replicate];omega)];rfl
theorem WI.even {ys l:List Nat}{i:Nat}(h:WI ys l i) (he:i%2=0) (hi:i<ys.length) (hl:i/2<l.length) (hd:ys.getD i 0<4294967296):WI ys (l.set (i/2) (ys.getD i 0)) (i+1):=by
 have h0:=h.z (i/2) (by omega)
 have h1:=nv_set hl (ys.getD i 0)
 refine⟨Wf_set h.wf _ (Nat.lt_trans hd (by decide)),?_,fun j hj=>?_,fun _=>?_⟩
 ·rw [nb_take_snoc 4294967296 ys i hi,←h.v]
  rw [h0,Nat.mul_zero,Nat.add_zero,WB_32,←Nat.pow_mul,show 2*(i/2)=i by omega] at h1
  exact h1
 ·rw [getD_set_ne (by omega),h.z j (by omega)]
 ·rw [show (i+1)/2=i/2 by omega,getD_set_eq hl];exact hd
theorem WI.done {xs ys l:List Nat}{k:Nat}(h:WI ys l k) (hk:ys.length=k) (hl:l.length=(k+1)/2) (hv:nb 4294967296 ys=nb 4294967296 xs) (ht:k=0∨ys.getD (k-1) 0≠0):l.take ((k+1)/2)=wd (nb 4294967296 xs):=by
 have hv2:nv l=nb 4294967296 xs:=by rw [h.v,List.take_of_length_le (Nat.le_of_eq hk),hv]
 rw [List.take_of_length_le (by omega),←hv2]
 refine (wd_of_ge h.wf ?_).symm
 by_cases h0:k=0
 ·left;omega
 ·right
  have h1:ys.getD (k-1) 0≠0:=by omega
  rw [hv2,←hv,nb_split 4294967296 ys (k-1) (by omega),hl]
  have h2:WB^((k+1)/2-1)≤4294967296^(k-1):=by
   rw [WB_32,←Nat.pow_mul]
   exact Nat.pow_le_pow_right (by decide) (by omega)
  have h3:1≤nb 4294967296 (ys.drop (k-1)):=by
   rw [List.drop_eq_getElem_cons (by omega),nb_cons]
   rw [List.getD_eq_getElem?_getD,List.getElem?_eq_getElem (by omega),Option.getD_some] at h1
   omega
  have h4:4294967296^(k-1)*1≤4294967296^(k-1)*nb 4294967296 (ys.drop (k-1)):=Nat.mul_le_mul_left _ h3
  omega
theorem rd_op {P:Program}{n:Nat}{l:Fr}{w:World}{ty:TypeId}{pos:String}{af:Array Edge}{gd:Option (Nat×Bool)}{o:BinOp}{t t':TypeId}{x y:Operand}{u v r:Value}{dst:Option Tmp}(hx:evo l x=some u) (hy:evo l y=some v) (ho:notEq o=true) (hb:∀w,(binOp o t u v).run P w= .ok r w):RunD P n l ⟨dst,.binOp o t x y t',ty,pos,af,gd⟩ w (.value r) w:=fun a' ha=>by
 have e:((do eqGuard o t x y (a'.eval x) (a'.eval y);binOp o t (a'.eval x) (a'.eval y)):Sem Value).run P w= .ok r w:=by
  rw [ha.ev hx,ha.ev hy];exact run_op ho (hb w)
 show ((((do eqGuard o t x y (a'.eval x) (a'.eval y);binOp o t (a'.eval x) (a'.eval y)):Sem Value)>>=fun r=>pure (Next.value r)):Sem Next).run P w=_
 rw [Sem.run_bind,e];rfl
structure ShlI (xs l:List Nat) (q s k i:Nat):Prop where
 len:l.length=q+k+1
 wf:Wf l
 val:nv l=WB^q*(nv (xs.take i)*2^s)
 lo:l.getD (q+i) 0<2^s
 up:∀j,q+i<j→l.getD j 0=0
theorem ShlI.init {xs:List Nat}{q s k:Nat}:ShlI xs (List.replicate (q+k+1) 0) q s k 0:=by
 have h0:∀j,(List.replicate (q+k+1) 0).getD j 0=0:=fun j=>by
  rw [List.getD_eq_getElem?_getD,List.getElem?_replicate];split <;> rfl
 refine⟨List.length_replicate,fun x hx=>by rw [List.eq_of_mem_replicate hx];exact WB_pos,?_,?_,fun j _=>h0 j⟩
 ·rw [nv_zeros,List.take_zero];simp [nv]
 ·rw [h0];exact Nat.two_pow_pos s
theorem ShlI.step {xs l:List Nat}{q s k i:Nat}(h:ShlI xs l q s k i) (hx:Wf xs) (hi:i<k) (hk:k≤xs.length) (hs:s<64):
  ShlI xs ((l.set (q+i) (l.getD (q+i) 0||| xs.getD i 0*2^s%18446744073709551616)).set (q+i+1) (xs.getD i 0/2^(64-s))) q s k (i+1):=by
 have hxb:xs.getD i 0<18446744073709551616:=by have:=Wf_getD hx i;rwa [WB_def] at this
 have hl:=h.len
 have hp:0<2^s:=Nat.two_pow_pos s
 have hpp:2^s*2^(64-s)=18446744073709551616:=by rw [←Nat.pow_add,show s+(64-s)=64 by omega]
 have hmod:xs.getD i 0*2^s%18446744073709551616=xs.getD i 0%2^(64-s)*2^s:=by
  rw [←hpp,Nat.mul_comm (2^s),Nat.mul_mod_mul_right]
 have hor:l.getD (q+i) 0||| xs.getD i 0*2^s%18446744073709551616=xs.getD i 0%2^(64-s)*2^s+l.getD (q+i) 0:=by
  rw [hmod,Nat.or_comm,or_join h.lo]
 rw [hor]
 have hlt:xs.getD i 0%2^(64-s)*2^s+l.getD (q+i) 0<18446744073709551616:=by
  have h1:=Nat.mod_lt (xs.getD i 0) (Nat.two_pow_pos (64-s))
  have h2:(xs.getD i 0%2^(64-s)+1)*2^s≤2^(64-s)*2^s:=Nat.mul_le_mul_right _ h1
  rw [Nat.mul_comm (2^(64-s)),hpp,Nat.add_mul,Nat.one_mul] at h2
  have:=h.lo
  omega
 have hq:xs.getD i 0/2^(64-s)<2^s:=by
  refine (Nat.div_lt_iff_lt_mul (Nat.two_pow_pos _)).2 ?_
  rw [hpp];exact hxb
 have hqw:xs.getD i 0/2^(64-s)<WB:=by rw [WB_def];exact Nat.lt_of_le_of_lt (Nat.div_le_self _ _) hxb
 have hg1:q+i<l.length:=by omega
 have hg2:q+i+1<(l.set (q+i) (xs.getD i 0%2^(64-s)*2^s+l.getD (q+i) 0)).length:=by rw [List.length_set];omega
 have e1:=nv_set hg1 (xs.getD i 0%2^(64-s)*2^s+l.getD (q+i) 0)
 have e2:=nv_set hg2 (xs.getD i 0/2^(64-s))
 have e3:(l.set (q+i) (xs.getD i 0%2^(64-s)*2^s+l.getD (q+i) 0)).getD (q+i+1) 0=0:=by
  rw [List.getD_eq_getElem?_getD,List.getElem?_set_ne (by omega),←List.getD_eq_getElem?_getD];exact h.up _ (by omega)
 refine⟨by rw [List.length_set,List.length_set];exact hl,?_,?_,?_,?_⟩
 ·exact Wf_set (Wf_set h.wf _ (by rw [WB_def];exact hlt)) _ hqw
 ·rw [e3,Nat.mul_zero,Nat.add_zero] at e2
  have e4:=nv_take_snoc xs i (by omega)
  have e5:=Nat.div_add_mod (xs.getD i 0) (2^(64-s))
  have hn:=h.val
  rw [e2,e4]
  rw [hn] at e1
  generalize nv (l.set (q+i) (xs.getD i 0%2^(64-s)*2^s+l.getD (q+i) 0))=V at*
  generalize xs.getD i 0%2^(64-s)=r at*
  generalize xs.getD i 0/2^(64-s)=d at*
  generalize nv (xs.take i)=T at*
  have f1:WB^(q+i+1)=WB^(q+i)*WB:=Nat.pow_succ _ _
  have f2:WB^(q+i)=WB^q*WB^i:=Nat.pow_add _ _ _
  have f3:xs.getD i 0*2^s=d*WB+r*2^s:=by
   rw [←e5,Nat.add_mul,WB_def,←hpp,Nat.mul_right_comm,Nat.mul_comm (2^(64-s)*2^s),Nat.mul_comm (2^(64-s))]
  have f4:WB^q*((T+WB^i*xs.getD i 0)*2^s)=WB^q*(T*2^s)+WB^(q+i)*(d*WB+r*2^s):=by
   rw [Nat.add_mul,Nat.mul_add,Nat.mul_assoc (WB^i),f3,f2,Nat.mul_assoc (WB^q) (WB^i)]
  rw [f4,f1]
  rw [Nat.mul_add] at e1⊢
  rw [Nat.mul_assoc (WB^(q+i)) WB,Nat.mul_comm WB d]
  omega
 ·rw [show q+(i+1)=q+i+1 by omega,List.getD_eq_getElem?_getD,List.getElem?_set_self hg2];exact hq
 ·intro j hj
  rw [List.getD_eq_getElem?_getD,List.getElem?_set_ne (by omega),List.getElem?_set_ne (by omega),←List.getD_eq_getElem?_getD]
  exact h.up j (by omega)
theorem ShlI.done {xs l:List Nat}{q s k n:Nat}(h:ShlI xs l q s k k) (hw:Wf xs) (hk:k=(wd (nv xs)).length) (hn:n=64*q+s):nv l=nv xs*2^n:=by
 rw [h.val,nv_take_len hw hk,hn,Nat.pow_add,Nat.pow_mul,←WB_pow,Nat.mul_left_comm]
set_option maxHeartbeats 4000000 in
theorem g_nat_Shl {w:World}{A:Option Addr}{m cap n b:Nat}{xs:List Nat}(hb0:b≤w.heap.size) (hx:Rd w A m cap xs) (hm:m≤1073741824) (hn:n≤1048576):
    Calls Try.prog 77 #[.slice A m cap,.int .i64 ((n:Nat):Int)] w (Gv w (T2 (WR b (nv xs*2^n)) (Is (.int .i64 0)))):=by
 refine sx_enter Try.func77 rfl (n:=67) rfl (bq rfl) (args:= [.slice A m cap,.int .i64 ((n:Nat):Int)]) (cw_keep [(0,.slice A m cap),(1,.int .i64 ((n:Nat):Int))] ⟨rfl,rfl,trivial⟩ (sr (mv 2 rfl (ne_ (cw_seq (cw_block (sr (mv 1 rfl (wl_cmp rfl rfl rfl false (cb_lt_f (a:=n) (b:=0) rfl rfl (by omega)) (by decide) (mv 1 rfl (ne_ (cw_false rfl (cw_seq ?_)))))))))))))
 refine cw_region (mv 1 rfl (wl_cmp rfl rfl rfl false (cb_gt_f (a:=n) (b:=1048576) rfl rfl (by omega)) (by decide) (mv 1 rfl (ne_ (cw_false rfl (cw_skip (eo_block_normal (eo_then (sr (mv 1 rfl (wl_call rfl rfl (vs:= [.slice A m cap]) (by kernel_rfl) (by decide) (nat_size hx (by omega)) ?_)))))))))))
 rintro _ _ ⟨k1,hk1,hnk1,rfl,rfl⟩
 refine ret_intro ?_
 have hk1:=hk1.out
 refine mv 1 rfl (ne_ (cw_seq (cw_seq ?_)))
 by_cases hk0:k1=0
 · 
  refine cw_region (mv 1 rfl (wl_cmp rfl rfl rfl true (cb_eq_t (a:=k1) (b:=0) rfl rfl (by omega)) (by decide) (ne_ (cw_true rfl (sr (mv 2 rfl (ne_ (cw_ret (eo_thenR (eo_ret [S0,I0] rfl ⟨rfl,rfl,trivial⟩ ?_))))))))))
  have h0:nv xs=0:=len_wd_zero.1 (by omega)
  rw [h0,Nat.zero_mul]
  exact⟨_,rfl,⟨_,_,rfl,⟨none,0,0,rfl,rfl,Own.nil _ _ _ _⟩,rfl⟩,(Ext.refl w)⟩
 · 
  refine cw_region (mv 1 rfl (wl_cmp rfl rfl rfl false (cb_eq_f (a:=k1) (b:=0) rfl rfl (by omega)) (by decide) (ne_ (cw_false rfl (cw_skip (eo_then (cw_seq ?_)))))))
  have hkl:k1≤xs.length:=by have:=hx.len;omega
  have hq:n=64*(n/64)+n%64:=(Nat.div_add_mod n 64).symm
  have hs64:n%64<64:=Nat.mod_lt _ (by decide)
  have hqn:n/64≤n:=Nat.div_le_self _ _
  refine cw_region (mv 1 rfl (wl_ar rfl rfl rfl ((n/64:Nat):Int) (ai_quo (a:=n) (b:=64) rfl rfl (by omega) (by omega)) (by decide) (mv 1 rfl (wl_ar rfl rfl rfl ((n%64:Nat):Int) (au_rem (a:=n) (b:=64) rfl rfl (by omega)) (by decide) (wl_pureE rfl rfl (v:= .int .u64 (IntKind.u64.wrap ((n%64:Nat):Int))) (v':= .int .u64 ((n%64:Nat):Int)) (by decide) (by kernel_rfl) (cv_u64 (by first | omega | exact (by have:=Nat.mod_lt (xs.getD i 0*2^(n%64)) (show 0<18446744073709551616 by decide);omega))) (mv 2 rfl (ne_ (sr (mv 2 rfl (wl_ar rfl rfl rfl (((n/64)+k1:Nat):Int) (ai_add (a:=n/64) (b:=k1) rfl rfl (by omega)) (by decide) (wl_ar rfl rfl rfl ((((n/64)+k1)+1:Nat):Int) (ai_add (a:=(n/64)+k1) (b:=1) rfl rfl (by omega)) (by decide) (wl_make rfl (k:=((n/64)+k1)+1) rfl rfl rfl un_u64 info64 rfl (by decide) (by omega) (by decide) fun g2 v3 hg4 hb5 e6=>?_))))))))))))
  rw [replicate_W64] at hb5
  have ge7:w.heap.size≤g2:=by rw [←hg4];exact (Ext.refl w).size
  have ne9:0<cap→∀a,A=some a→a.block≠g2:=fun hc a ha=>by have:=(hx).rv.blk a ha hc;omega
  clear hg4
  have hw1:=(Ext.refl w).trans e6
  refine mv 1 rfl (ne_ (cw_seq (sr (mv 2 rfl (ne_ (cw_block ?_))))))
  refine cw_loop (T:=World×Nat×List Nat)
   (fun⟨wr,i,l⟩=> [(0,.slice A m cap),(6,.int .i64 ((k1:Nat):Int)),(7,.int .i64 ((n/64:Nat):Int)),(8,.int .u64 ((n%64:Nat):Int)),(9,.slice (some ⟨g2,0,none⟩) (((n/64)+k1)+1) (((n/64)+k1)+1)),(31,.int .i64 ((k1:Nat):Int)),(32,.int .i64 ((i:Nat):Int))])
   (fun⟨wr,i,l⟩=>wr)
   (fun⟨wr,i,l⟩=>(Ext w wr)∧(i≤k1)∧(Bk wr g2 24 (l.map W64))∧(ShlI xs l (n/64) (n%64) k1 i)∧(Rd wr A m cap xs))
   (fun⟨wr,i,l⟩=>k1-i)
   (⟨v3,0,_⟩:World×Nat×List Nat) ⟨hw1,(Nat.zero_le _),hb5,ShlI.init,(hx.ext e6)⟩ rfl ⟨rfl,rfl,rfl,rfl,rfl,rfl,rfl,trivial⟩ ?_
  rintro⟨wr,i,l⟩ ⟨hw1,hi,hb,hI,rl0⟩
  refine cw_re [(0,.slice A m cap),(6,.int .i64 ((k1:Nat):Int)),(7,.int .i64 ((n/64:Nat):Int)),(8,.int .u64 ((n%64:Nat):Int)),(9,.slice (some ⟨g2,0,none⟩) (((n/64)+k1)+1) (((n/64)+k1)+1)),(31,.int .i64 ((k1:Nat):Int)),(32,.int .i64 ((i:Nat):Int))] wr rfl ⟨rfl,rfl,rfl,rfl,rfl,rfl,rfl,trivial⟩ (cw_seq ?_)
  by_cases hik:i<k1
  · 
   have hxb:xs.getD i 0≤18446744073709551615:=by have:=Wf_getD hx.wf i;rw [WB_def] at this;omega
   have hlb:l.getD (n/64+i) 0≤18446744073709551615:=by have:=Wf_getD hI.wf (n/64+i);rw [WB_def] at this;omega
   have hlen:=hI.len
   refine cw_region (wl_cmp rfl rfl rfl true (cb_lt_t (a:=i) (b:=k1) rfl rfl (by omega)) (by decide) (ne_ (cw_seq (cw_true rfl (cw_skip (eo_then (cw_seq (cw_block (sr (mv 2 rfl (ne_ (cw_seq (cw_keep [(0,.slice A m cap),(6,.int .i64 ((k1:Nat):Int)),(7,.int .i64 ((n/64:Nat):Int)),(8,.int .u64 ((n%64:Nat):Int)),(9,.slice (some ⟨g2,0,none⟩) (((n/64)+k1)+1) (((n/64)+k1)+1)),(31,.int .i64 ((k1:Nat):Int)),(32,.int .i64 ((i:Nat):Int)),(33,.bool true),(34,.int .i64 ((i:Nat):Int)),(10,.int .i64 ((i:Nat):Int))] ⟨rfl,rfl,rfl,rfl,rfl,rfl,rfl,rfl,rfl,rfl,trivial⟩ ?_)))))))))))))
   obtain⟨v10,hv,e11⟩:∃v,v=wr.drew∧Ext wr v:=⟨_,rfl,(Ext.refl _).drew⟩
   have hw2:=hw1.trans e11
   obtain⟨p12,hp12,hc12,hv12⟩:=((rl0.ext e11)).at (i:=i) (by omega)
   have hb14:=(hb.ext e11)
   obtain⟨v13,hr18,hb15,u16,hs17⟩:=run_store1v (P:=Try.prog) (v:= .int .u64 (((l.getD ((n/64)+i) 0)||| ((xs.getD i 0)*2^(n%64)%18446744073709551616):Nat):Int)) (off:=(n/64)+i) sz_u64 rfl hb14 (len_map (by rw [hI.len];omega)) rfl ((l.set ((n/64)+i) ((l.getD ((n/64)+i) 0)||| ((xs.getD i 0)*2^(n%64)%18446744073709551616))).map W64) (map_W64_set _ _ _)
   have hw3:=u16.ext hw2 ge7
   refine cw_det mix (w:=v10) [.slice (some ⟨g2,0,none⟩) (((n/64)+k1)+1) (((n/64)+k1)+1),.int .i64 ((n/64:Nat):Int),.int .i64 ((i:Nat):Int),.int .i64 (((n/64)+i:Nat):Int),.pointer (some (⟨g2,(n/64)+i,none⟩)),.int .u64 ((l.getD ((n/64)+i) 0:Nat):Int),.slice A m cap,.int .i64 ((i:Nat):Int),.pointer (some p12),.int .u64 ((xs.getD i 0:Nat):Int),.int .u64 ((n%64:Nat):Int),.int .u64 (((xs.getD i 0)*2^(n%64)%18446744073709551616:Nat):Int),.int .u64 (((l.getD ((n/64)+i) 0)||| ((xs.getD i 0)*2^(n%64)%18446744073709551616):Nat):Int),.pointer (some (⟨g2,(n/64)+i,none⟩)),undef] [v10,v13] [14] [[],[],[],[1,2],[0,3],[4],[],[],[6,7],[8],[],[9,10],[5,11],[0,3],[12,13]] [[],[],[],[1,2],[0,1,2,3],[0,1,2,3,4],[],[],[6,7],[6,7,8],[],[6,7,8,9,10],[0,1,2,3,4,5,6,7,8,9,10,11],[0,1,2,3,4,5,6,7,8,9,10,11,12],[0,1,2,3,4,5,6,7,8,9,10,11,12,13]] [(0,0),(1,0),(2,0),(3,0),(4,0),(5,0),(6,0),(7,0),(8,0),(9,0),(10,0),(11,0),(12,0),(13,0),(14,0)] rfl hv ?_ ?_
   · 
    refine dobs_val _ rfl rfl rfl rfl rfl (rd_move rfl) (dobs_val _ rfl rfl rfl rfl rfl (rd_move rfl) (dobs_val _ rfl rfl rfl rfl rfl (rd_move rfl) (dobs_val _ rfl rfl rfl rfl rfl (rd_ar rfl rfl (((n/64)+i:Nat):Int) (ai_add (a:=n/64) (b:=i) rfl rfl (by omega))) (dobs_val _ rfl rfl rfl rfl rfl (rd_idx rfl rfl un_u64 sz_u64 ((n/64)+i) rfl (by omega) ⟨g2,(n/64)+i,none⟩ (arr_at _ _)) (dobs_val _ rfl rfl rfl rfl rfl (rd_load rfl (load_word ag_u64 (hb.ext e11) (by rw [hI.len];omega))) (dobs_val _ rfl rfl rfl rfl rfl (rd_move rfl) (dobs_val _ rfl rfl rfl rfl rfl (rd_move rfl) (dobs_val _ rfl rfl rfl rfl rfl (rd_idx rfl rfl un_u64 sz_u64 i rfl (by omega) p12 hp12) (dobs_val _ rfl rfl rfl rfl rfl (rd_load rfl (load_cell1 ag_u64 hc12)) (dobs_val _ rfl rfl rfl rfl rfl (rd_move rfl) (dobs_val _ rfl rfl rfl rfl rfl (rd_op rfl rfl (r:= .int .u64 (((xs.getD i 0)*2^(n%64)%18446744073709551616:Nat):Int)) rfl (fun w=>u64_shl (x:=xs.getD i 0) (s:=n%64) (by omega) _ _ w)) (dobs_val _ rfl rfl rfl rfl rfl (rd_op rfl rfl (r:= .int .u64 (((l.getD ((n/64)+i) 0)||| ((xs.getD i 0)*2^(n%64)%18446744073709551616):Nat):Int)) rfl (fun w=>u64_or (x:=l.getD ((n/64)+i) 0) (y:=(xs.getD i 0)*2^(n%64)%18446744073709551616) hlb (by have:=Nat.mod_lt (xs.getD i 0*2^(n%64)) (show 0<18446744073709551616 by decide);omega) _ _ w)) (dobs_val _ rfl rfl rfl rfl rfl (rd_idx rfl rfl un_u64 sz_u64 ((n/64)+i) rfl (by omega) ⟨g2,(n/64)+i,none⟩ (arr_at _ _)) ?_)))))))))))))
    refine dobs_sto _ rfl rfl rfl rfl rfl (rd_store rfl rfl hr18) ?_
    exact dobs_nil
   clear hv
   refine eo_keep [(0,.slice A m cap),(6,.int .i64 ((k1:Nat):Int)),(7,.int .i64 ((n/64:Nat):Int)),(8,.int .u64 ((n%64:Nat):Int)),(9,.slice (some ⟨g2,0,none⟩) (((n/64)+k1)+1) (((n/64)+k1)+1)),(31,.int .i64 ((k1:Nat):Int)),(32,.int .i64 ((i:Nat):Int)),(33,.bool true),(34,.int .i64 ((i:Nat):Int)),(10,.int .i64 ((i:Nat):Int)),(35,.slice (some ⟨g2,0,none⟩) (((n/64)+k1)+1) (((n/64)+k1)+1)),(36,.int .i64 ((n/64:Nat):Int)),(37,.int .i64 ((i:Nat):Int)),(38,.int .i64 (((n/64)+i:Nat):Int)),(39,.pointer (some (⟨g2,(n/64)+i,none⟩))),(40,.int .u64 ((l.getD ((n/64)+i) 0:Nat):Int)),(41,.slice A m cap),(42,.int .i64 ((i:Nat):Int)),(43,.pointer (some p12)),(44,.int .u64 ((xs.getD i 0:Nat):Int)),(45,.int .u64 ((n%64:Nat):Int)),(46,.int .u64 (((xs.getD i 0)*2^(n%64)%18446744073709551616:Nat):Int)),(47,.int .u64 (((l.getD ((n/64)+i) 0)||| ((xs.getD i 0)*2^(n%64)%18446744073709551616):Nat):Int)),(48,.pointer (some (⟨g2,(n/64)+i,none⟩)))] ⟨rfl,rfl,rfl,rfl,rfl,rfl,rfl,rfl,rfl,rfl,rfl,rfl,rfl,rfl,rfl,rfl,rfl,rfl,rfl,rfl,rfl,rfl,rfl,rfl,trivial⟩ (eo_then (cw_region (mv 3 rfl (wl_ar rfl rfl rfl (((n/64)+i:Nat):Int) (ai_add (a:=n/64) (b:=i) rfl rfl (by omega)) (by decide) (wl_ar rfl rfl rfl ((((n/64)+i)+1:Nat):Int) (ai_add (a:=(n/64)+i) (b:=1) rfl rfl (by omega)) (by decide) (mv 2 rfl ?_))))))
   obtain⟨p19,hp19,hc19,hv19⟩:=((Rd.updL (rl0.ext e11) u16 ne9)).at (i:=i) (by omega)
   refine wl_idx rfl rfl rfl un_u64 sz_u64 i rfl (by omega) p19 hp19 (by decide) (wl_load rfl rfl (load_cell1 ag_u64 hc19) (by decide) (mv 1 rfl (wl_ar rfl rfl rfl ((64-(n%64):Nat):Int) (au_sub (a:=64) (b:=n%64) rfl rfl (by omega) (by omega)) (by decide) (wl_op rfl rfl rfl (r:= .int .u64 (((xs.getD i 0)/2^(64-(n%64)):Nat):Int)) rfl (fun w=>u64_shr (x:=xs.getD i 0) (s:=64-(n%64)) (by omega) _ _ w) (by decide) (wl_idx rfl rfl rfl un_u64 sz_u64 (((n/64)+i)+1) rfl (by omega) ⟨g2,((n/64)+i)+1,none⟩ (arr_at _ _) (by decide) (wl_stored1 rfl rfl rfl sz_u64 rfl hb15 (len_map (by rw [(len_set (l:=l) (hI.len))];omega)) rfl (((l.set ((n/64)+i) ((l.getD ((n/64)+i) 0)||| ((xs.getD i 0)*2^(n%64)%18446744073709551616))).set (((n/64)+i)+1) ((xs.getD i 0)/2^(64-(n%64)))).map W64) (map_W64_set _ _ _) fun v20 hb22 u23 hs24=>?_))))))
   have hw4:=u23.ext hw3 ge7
   refine wl_nil (eo_block_normal (eo_then (cw_region (wl_ar rfl rfl rfl ((i+1:Nat):Int) (ai_add (a:=i) (b:=1) rfl rfl (by omega)) (by decide) (mv 1 rfl (wl_nil (eo_round (⟨v20,i+1,_⟩:World×Nat×List Nat) ⟨hw4,(by omega),hb22,(hI.step hx.wf hik hkl hs64),(Rd.updL (Rd.updL (rl0.ext e11) u16 ne9) u23 ne9)⟩ (show k1-(i+1)<k1-i by omega) rfl ⟨rfl,rfl,rfl,rfl,rfl,rfl,rfl,trivial⟩)))))))
  · 
   have hie:i=k1:=by omega
   rw [hie] at hI
   have hnv:=hI.done hx.wf hk1 hq
   have hlen:=hI.len
   refine cw_region (wl_cmp rfl rfl rfl false (cb_lt_f (a:=i) (b:=k1) rfl rfl (by omega)) (by decide) (ne_ (cw_seq (cw_false rfl (cw_exit (eo_thenX (eo_loopX (eo_block_here (eo_then (sr (mv 2 rfl (wl_call rfl rfl (vs:= [.slice (some ⟨g2,0,none⟩) (((n/64)+k1)+1) (((n/64)+k1)+1)]) (by kernel_rfl) (by decide) (nat_size ((hb).rd0 hI.wf hI.len (by omega)) (by omega)) ?_))))))))))))
   rintro _ _ ⟨k25,hk25,hnk25,rfl,rfl⟩
   refine ret_intro ?_
   have hk25:=hk25.out
   have hle8:k25≤n/64+k1+1:=by rw [hk25];exact Nat.le_trans (len_wd_nv hI.wf) (Nat.le_of_eq hI.len)
   refine wl_slice rfl rfl un_u64 sz_u64 (lo:=0) (hi:=k25) rfl rfl (by omega) (by omega) (v:= .slice (some ⟨g2,0,none⟩) k25 (((n/64)+k1)+1)) (slice_to _ _ _) (by decide) (mv 2 rfl (ne_ (cw_ret (eo_ret [.slice (some ⟨g2,0,none⟩) k25 (((n/64)+k1)+1),I0] rfl ⟨rfl,rfl,trivial⟩ ?_))))
   have hwd:=wd_take_len hI.wf hk25
   have ho:Own wr b 24 1 (some ⟨g2,0,none⟩) k25 (n/64+k1+1) ((wd (nv l)).map W64):=Own.mk_ (Nat.le_trans hb0 ge7) hb (by omega) (by rw [len_maxLen];omega) (by rw [List.length_map,Nat.mul_one];exact hI.len) (by rw [hwd,Nat.mul_one,List.map_take])
   rw [←hnv]
   exact⟨_,rfl,⟨_,_,rfl,⟨_,_,_,rfl,hk25,ho⟩,rfl⟩,hw1⟩
theorem UpdO.of {w w':World}{A:Option Addr}(h:w.grownBy w' none):UpdO A w w':=⟨⟨h.os,h.tape,h.output,h.size,fun k hk _=>h.block k hk (by simp)⟩⟩
theorem Upd.updO {w w':World}{g:Nat}(h:Upd g w w'){o:Nat}{x:_}:UpdO (some ⟨g,o,x⟩) w w':=⟨h.by_⟩
theorem overl_take {cs us vs:List Value}{k:Nat}(hv:cs.take k=vs) (hk:k≤cs.length):(overl cs k us).take (k+us.length)=vs++us:=by
 unfold overl
 have e:(cs.take k++us).length=k+us.length:=by rw [List.length_append,List.length_take,Nat.min_eq_left hk]
 rw [←e,List.take_left',hv]
 rfl
def Kept (w:World) (A A':Option Addr):Prop:=∀a',A'=some a'→(∃a,A=some a∧a'.block=a.block)∨w.heap.size≤a'.block
section
variable {P:Program}
theorem run_app {t ty e:TypeId}{z:Value}{s bytes:Nat}(ht:P.underlying t=some (.slice e)) (hinfo:(P.info? e).map (fun i=>(i.zero,i.size,i.bytes))=some (some z,s,bytes)) (hzs:z.cells.size=s) (hsz:0<s) (hby:bytes≤64)
  {w:World}{base:Nat}{A:Option Addr}{n cap:Nat}{xs:List Value}(hown:Own w base e s A n cap xs) (hb:base≤w.heap.size){a:Addr}{m c:Nat}{news:List Value}(hl:news.length=m*s) (hnews:∀j u,news[j]?=some u→w.cell? (a.add j)=some u)
  (h1:news.all (·.oneCell')=true) (hm:n+m≤1099511627776):
  ∃A' cap' w',(Builtin.append_ #[t,t] ty #[.slice A n cap,.slice (some a) m c]).run P w= .ok (.slice A' (n+m) cap') w'∧Own w' base e s A' (n+m) cap' (xs++news)∧UpdO A w w'∧Kept w A A':=by
 obtain⟨i,hi,hz,hz1,hz2⟩:=info_parts hinfo
 have h1':∀u∈news,u.oneCell'=true:=by simpa [List.all_eq_true] using h1
 have h63:n+m≤maxLen:=by rw [len_maxLen];omega
 have hbytes:(n+m)*bytes≤140737488355328:=by
  have:(n+m)*bytes≤1099511627776*64:=Nat.mul_le_mul hm hby
  omega
 rcases hown with⟨rfl,rfl,rfl,rfl⟩ | ⟨g,cs,rfl,hg,hk,hn,hcm,hcl,hv⟩
 ·obtain⟨v',w',hr,h2,h3,_⟩:=run_append_own (P:=P) w w.heap.size t ty e i z s bytes ht hi hz hz1 hz2 hzs hsz (.slice none 0 0) 0 [] (World.ownsRow_nil w _ e s) a m c news hl hnews h1' h63 hbytes (Nat.le_refl _)
  obtain⟨A',cap',rfl,ho⟩:=Own.of_row h2
  exact⟨A',cap',w',hr,ho.mono hb,UpdO.of h3,fun a' ha=>Or.inr (ho.block a' ha).1⟩
 ·by_cases hroom:n+m≤cap
  ·have hfit:n*s+news.length≤cs.length:=by rw [hl,hcl,←Nat.add_mul];exact Nat.mul_le_mul_right s hroom
   obtain⟨w',hst,hb2,hu,hs⟩:=store_cells (P:=P) news 0 (n*s) w cs hk (by omega) h1'
   rw [Nat.add_zero] at hb2
   have hfc:=run_firstCells_some (P:=P) w i.size m a m c news (by rw [hz1];exact hl) hnews
   rw [hz1] at hfc
   refine⟨some ⟨g,0,none⟩,cap,w',?_,Or.inr ⟨g,_,rfl,hg,hb2,hroom,hcm,?_,?_⟩,hu.updO,fun a' ha=>Or.inl ⟨_,rfl,by cases ha;rfl⟩⟩
   ·simp [Builtin.append_,run_underlying ht,sizeOf,typeInfo,hi,Builtin.lenOf,hroom,hfc,Addr.add_lit,hz1,hst]
   ·unfold overl
    simp only [List.length_append,List.length_take,List.length_drop]
    omega
   ·rw [Nat.add_mul,←hl]
    exact overl_take hv (by omega)
  ·have hx:=hv
   obtain⟨v',w',hr,h2,h3⟩:=run_append_arg_grows (P:=P) w t ty e i z s bytes ht hi hz hz1 hz2 hzs hsz ⟨g,0,none⟩ n cap xs
    (by rw [←hv,List.length_take];have:=Nat.mul_le_mul_right s hn;omega)
    (fun j u hj=>by
     have hjl:=(List.getElem?_eq_some_iff.1 hj).1
     rw [add_lit0,Nat.zero_add,hk.cell (by rw [←hv,List.length_take] at hjl;omega)]
     rw [←hv,List.getElem?_take] at hj
     split at hj
     ·rw [List.getD_eq_getElem?_getD,hj];rfl
     ·cases hj) a m c news hl hnews (by omega) h63 hbytes
   obtain⟨A',cap',rfl,ho⟩:=Own.of_row h2
   exact⟨A',cap',w',hr,ho.mono hb,UpdO.of h3,fun a' ha=>Or.inr (ho.block a' ha).1⟩
variable {Q:Exit→Act→World→Prop}{n:Nat}{l:Fr}{w:World}{ops:Array Oper}{rest:List Oper}{d:Nat}{ty:TypeId}{pos:String}{af:Array Edge}{gd:Option (Nat×Bool)}
theorem wl_app {x y:Operand}{t e:TypeId}{z:Value}{s bytes k m c cap base:Nat}{A:Option Addr}{a:Addr}{xs:List Value}(hw:guardB ops l gd=some true) (hx:evo l x=some (.slice A k cap)) (hy:evo l y=some (.slice (some a) m c))
  (ht:P.underlying t=some (.slice e)) (hinfo:(P.info? e).map (fun i=>(i.zero,i.size,i.bytes))=some (some z,s,bytes)) (hzs:z.cells.size=s) (hsz:0<s) (hby:bytes≤64)
  (hown:Own w base e s A k cap xs) (hb:base≤w.heap.size) (news:List Value) (hl:news.length=m*s) (hnews:∀j u,news[j]?=some u→w.cell? (a.add j)=some u)
  (h1:news.all (·.oneCell')=true) (hm:k+m≤1099511627776) (hn:d<n)
  (h:∀A' cap' w',Own w' base e s A' (k+m) cap' (xs++news)→UpdO A w w'→Kept w A A'→wl P ops Q n rest ((d,.slice A' (k+m) cap')::l) w'):
  wl P ops Q n (⟨some d,.call {callee:= .builtin .append,args:= #[x,y],argTypes:= #[t,t]},ty,pos,af,gd⟩::rest) l w:=by
 obtain⟨A',cap',w',hr,h2,h3,h4⟩:=run_app (P:=P) (ty:=ty) ht hinfo hzs hsz hby hown hb hl hnews h1 hm
 refine wl_val hw hn (fun a' ha=>?_) (h A' cap' w' h2 h3 h4)
 unfold execOp
 simp only [resolve,invoke,builtin,Sem.run_bind,Sem.run_pure,Result.andThen_ok,List.map_toArray,List.map_cons,List.map_nil,ha.ev hx,ha.ev hy]
 rw [hr]
 rfl
end
theorem Own.updOT {w w':World}{b b':Nat}{t T:TypeId}{s s':Nat}{A B:Option Addr}{n cap m c:Nat}{vs us:List Value}(h:Own w b t s A n cap vs) (ho:Own w b' T s' B m c us) (hT:t≠T) (x:UpdO B w w'):Own w' b t s A n cap vs:=by
 refine h.updO x (fun p q hp hq hg=>?_)
 rcases ho with⟨h1,_⟩ | ⟨k,cs,hB,_,hk,_⟩
 ·rw [h1] at hp;cases hp
 ·rcases h with⟨h2,_⟩ | ⟨k',cs',hA,_,hk',_⟩
  ·rw [h2] at hq;cases hq
  ·rw [hB] at hp;rw [hA] at hq
   cases hp;cases hq
   simp only at hg
   subst hg
   unfold Bk at hk hk'
   rw [hk] at hk'
   injection hk' with hk'
   injection hk' with e1 e2
   exact hT e2.symm
structure ZC where
 s:Bool
 A:Option Addr
 n:Nat
 c:Nat
structure ExtI (x y r0 r1 m0 m1:Int):Prop where
 nn0:0≤r0
 nn1:0≤r1
 gcd:Int.gcd r0 r1=Int.gcd x y
 d0:y∣r0-m0*x.natAbs
 d1:y∣r1-m1*x.natAbs
 bal:m1.natAbs*r0.natAbs+m0.natAbs*r1.natAbs=y.natAbs
 sgn:m0*m1≤0
 b0:r0.natAbs≤max x.natAbs y.natAbs
 b1:r1.natAbs≤y.natAbs
 mb0:m0.natAbs≤y.natAbs
 mb1:m1.natAbs≤y.natAbs
theorem ExtI.init {x y:Int}(h:y≠0):ExtI x y x.natAbs y.natAbs 1 0 where
 nn0:=by omega
 nn1:=by omega
 gcd:=by simp [Int.gcd]
 d0:=by simp
 d1:=by
  rw [Int.zero_mul,Int.sub_zero]
  exact Int.dvd_natAbs.2 (Int.dvd_refl y)
 bal:=by simp
 sgn:=by decide
 b0:=by rw [Int.natAbs_natCast];exact Nat.le_max_left _ _
 b1:=by simp
 mb0:=by show 1≤_;omega
 mb1:=by simp
theorem natAbs_opp {a b c:Int}(h:a*b≤0) (hc:0≤c):(a-c*b).natAbs=a.natAbs+c.natAbs*b.natAbs:=by
 rw [←Int.natAbs_mul]
 have h2:a*(c*b)≤0:=by
  have:a*(c*b)=c*(a*b):=by grind
  rw [this]
  exact Int.mul_nonpos_of_nonneg_of_nonpos hc h
 rcases Int.lt_trichotomy a 0 with ha | ha | ha
 ·have:0≤c*b:=by
   refine Int.le_of_not_gt fun hl=>?_
   have:=Int.mul_pos_of_neg_of_neg ha hl
   omega
  omega
 ·subst ha;simp
 ·have:c*b≤0:=by
   refine Int.le_of_not_gt fun hl=>?_
   have:=Int.mul_pos ha hl
   omega
  omega
theorem ExtI.step {x y r0 r1 m0 m1:Int}(h:ExtI x y r0 r1 m0 m1) (hr:r1≠0):ExtI x y r1 (r0.tmod r1) m1 (m0-r0.tdiv r1*m1):=by
 have e:=Int.tdiv_mul_add_tmod r0 r1
 have nn:=Int.tmod_nonneg r1 h.nn0
 have hq:0≤r0.tdiv r1:=Int.tdiv_nonneg h.nn0 h.nn1
 have hlt:r0.tmod r1<r1:=Int.tmod_lt_of_pos _ (by have:=h.nn1;omega)
 have hab:=natAbs_opp h.sgn hq
 have hbal:(m0-r0.tdiv r1*m1).natAbs*r1.natAbs+m1.natAbs*(r0.tmod r1).natAbs=y.natAbs:=by
  rw [hab,←h.bal]
  have e2:r0.natAbs=(r0.tdiv r1).natAbs*r1.natAbs+(r0.tmod r1).natAbs:=by
   rw [←Int.natAbs_mul,←Int.natAbs_add_of_nonneg (Int.mul_nonneg hq h.nn1) nn,e]
  rw [e2]
  grind
 refine⟨h.nn1,nn,?_,h.d1,?_,hbal,?_,Nat.le_trans h.b1 (Nat.le_max_right _ _),?_,h.mb1,?_⟩
 ·rw [←h.gcd]
  have:Int.gcd r0 r1=Int.gcd (r0.tmod r1+r1*r0.tdiv r1) r1:=by
   congr 1
   rw [Int.mul_comm];omega
  rw [this,Int.gcd_add_mul_left_left,Int.gcd_comm]
 ·have e3:r0.tmod r1-(m0-r0.tdiv r1*m1)*x.natAbs=(r0-m0*x.natAbs)-r0.tdiv r1*(r1-m1*x.natAbs):=by
   have:r0.tmod r1=r0-r0.tdiv r1*r1:=by omega
   rw [this];grind
  rw [e3]
  exact Int.dvd_sub h.d0 (Int.dvd_mul_of_dvd_right h.d1)
 ·have e4:m1*(m0-r0.tdiv r1*m1)=m0*m1-r0.tdiv r1*(m1*m1):=by grind
  rw [e4]
  have h1:0≤m1*m1:=by
   rcases Int.le_total 0 m1 with h | h
   ·exact Int.mul_nonneg h h
   ·exact Int.mul_nonneg_of_nonpos_of_nonpos h h
  have:=Int.mul_nonneg hq h1
  have:=h.sgn
  omega
 ·have:=h.b1
  have h2:(r0.tmod r1).natAbs≤r1.natAbs:=by omega
  omega
 ·have h1:1≤r1.natAbs:=by omega
  have h2:(m0-r0.tdiv r1*m1).natAbs≤(m0-r0.tdiv r1*m1).natAbs*r1.natAbs:=Nat.le_mul_of_pos_right _ h1
  omega
structure Bez (x y u v:Int):Prop where
 zero:y=0→u=x.sign∧v=0
 eq:x*u+y*v=Int.gcd x y
 lo:y≠0→0≤u
 hi:y≠0→u*Int.gcd x y<y.natAbs
theorem ExtI.done {x y r0 m0 m1 z:Int}(h:ExtI x y r0 0 m0 m1) (hy:y≠0) (hz:z=if x<0 then-m0 else m0):
  r0=(Int.gcd x y:Int)∧r0≠0∧y.tdiv r0≠0∧y.natAbs%r0.natAbs=0∧(r0-x*(z%y.tdiv r0)).natAbs%y.natAbs=0∧Bez x y (z%y.tdiv r0) ((r0-x*(z%y.tdiv r0)).tdiv y):=by
 have hg:=h.gcd
 rw [Int.gcd_zero_right] at hg
 have e0:r0=(Int.gcd x y:Int):=by have:=h.nn0;omega
 have hpos:0<Int.gcd x y:=Int.gcd_pos_of_ne_zero_right x hy
 have hr0:r0≠0:=by omega
 obtain⟨p,hp⟩:=Int.gcd_dvd_right x y
 obtain⟨q,hq⟩:=Int.gcd_dvd_left x y
 rw [←e0] at hp hq
 have hpd:y.tdiv r0=p:=by rw [hp];exact Int.mul_tdiv_cancel_left _ hr0
 have hp0:p≠0:=fun e=>hy (by rw [hp,e,Int.mul_zero])
 have hz1:y∣r0-x*z:=by
  have hd:=h.d0
  have hx:x*z=m0*x.natAbs:=by
   rw [hz]
   by_cases hn:x<0
   ·rw [if_pos hn]
    have:(x.natAbs:Int)= -x:=by omega
    rw [this];grind
   ·rw [if_neg hn]
    have:(x.natAbs:Int)=x:=by omega
    rw [this];grind
  rw [hx];exact hd
 have hm:=Int.mul_ediv_add_emod z p
 have hdvd:y∣r0-x*(z%p):=by
  have e1:r0-x*(z%p)=(r0-x*z)+y*(q*(z/p)):=by
   have e2:z%p=z-p*(z/p):=by omega
   have e3:x*(p*(z/p))=y*(q*(z/p)):=by
    calc x*(p*(z/p))=(r0*q)*(p*(z/p)):=by rw [←hq]
     _=(r0*p)*(q*(z/p)):=by grind
     _=y*(q*(z/p)):=by rw [←hp]
   rw [e2,Int.mul_sub,e3]
   omega
  rw [e1]
  exact Int.dvd_add hz1 (Int.dvd_mul_right _ _)
 refine⟨e0,hr0,by rw [hpd];exact hp0,?_,?_,?_⟩
 ·refine Nat.mod_eq_zero_of_dvd (Int.natAbs_dvd_natAbs.2 ⟨p,hp⟩)
 ·rw [hpd]
  exact Nat.mod_eq_zero_of_dvd (Int.natAbs_dvd_natAbs.2 hdvd)
 ·rw [hpd]
  refine⟨fun e=>absurd e hy,?_,fun _=>Int.emod_nonneg _ hp0,fun _=>?_⟩
  ·have:=Int.mul_tdiv_cancel' hdvd
   rw [←e0]
   omega
  ·rw [←e0]
   have h1:=Int.emod_lt z hp0
   have h2:(z%p)*r0<p.natAbs*r0:=Int.mul_lt_mul_of_pos_right h1 (by omega)
   have h3:(y.natAbs:Int)=p.natAbs*r0:=by
    rw [hp,Int.natAbs_mul]
    have:(r0.natAbs:Int)=r0:=by omega
    rw [Int.natCast_mul,this,Int.mul_comm]
   omega
def ZC.zero:ZC:=⟨false,none,0,0⟩
def zcells:List ZC→List Value
 | []=> []
 | e::r=> .bool e.s:: .slice e.A e.n e.c::zcells r
theorem zcells_get0:∀(es:List ZC) (i:Nat),i<es.length→(zcells es)[i*2]?=some (.bool (es.getD i ZC.zero).s)
 | [],i,h=>by simp at h
 | e::r,0,h=>rfl
 | e::r,i+1,h=>by
  have:=zcells_get0 r i (by simpa using h)
  simpa [zcells,Nat.add_mul] using this
theorem zcells_get1:∀(es:List ZC) (i:Nat),i<es.length→(zcells es)[i*2+1]?=some (.slice (es.getD i ZC.zero).A (es.getD i ZC.zero).n (es.getD i ZC.zero).c)
 | [],i,h=>by simp at h
 | e::r,0,h=>rfl
 | e::r,i+1,h=>by
  have:=zcells_get1 r i (by simpa using h)
  simpa [zcells,Nat.add_mul] using this
theorem Zl.at {w:World}{A:Option Addr}{n cap:Nat}{zs:List Int}{ms:List Nat}(h:Zl w A n cap zs ms){i:Nat}(hi:i<n):
  ∃p s B c,A.map (·.add (i*2))=some p∧(∀w',Ext w w'→∀(P:Program) (T:TypeId),AggT P T 2→(loadVar T p).run P w'= .ok (.agg #[.bool s,.slice B (ms.getD i 0) c]) w')∧Zi w s B (ms.getD i 0) c (zs.getD i 0):=by
 obtain⟨a,s,B,c,rfl,h1,h2,h3⟩:=h.get i hi
 refine⟨a.add (i*2),s,B,c,rfl,fun w' e P T hT=>load_at hT [.bool s,.slice B (ms.getD i 0) c] rfl (fun j hj=>?_),h3⟩
 rw [add_of_add]
 match j,hj with
 | 0,_=>exact e.cell h1
 | 1,_=>exact e.cell h2
theorem Zr.updOT {w w':World}{b b':Nat}{s:Bool}{A B:Option Addr}{n cap m c s':Nat}{z:Int}{T:TypeId}{us:List Value}(h:Zr w b s A n cap z) (ho:Own w b' T s' B m c us) (x:UpdO B w w') (hT:24≠T:=by decide):Zr w' b s A n cap z:=
 ⟨h.sgn,h.len,h.own.updOT ho hT x⟩
def Zo (w:World) (b:Nat) (s:Bool) (A:Option Addr) (n cap:Nat) (z:Int):Prop:=∃xs,Own w b 24 1 A n cap (xs.map W64)∧Wf xs∧sg s (nv xs)=z
section
variable {w w':World}{b:Nat}{s:Bool}{A:Option Addr}{n cap:Nat}{z:Int}
theorem Zo.zi (h:Zo w b s A n cap z):Zi w s A n cap z:=by obtain⟨xs,h1,h2,h3⟩:=h;exact⟨xs,h1.rd h2,h3⟩
theorem Zo.ext (h:Zo w b s A n cap z) (x:Ext w w'):Zo w' b s A n cap z:=by obtain⟨xs,h1,h2⟩:=h;exact⟨xs,h1.ext x,h2⟩
theorem Zo.mono {b':Nat}(h:Zo w b s A n cap z) (x:b'≤b):Zo w b' s A n cap z:=by obtain⟨xs,h1,h2⟩:=h;exact⟨xs,h1.mono x,h2⟩
theorem Zo.updT {g:Nat}{T:TypeId}{us:List Value}(h:Zo w b s A n cap z) (hb:Bk w g T us) (x:Upd g w w') (hT:24≠T:=by decide):Zo w' b s A n cap z:=by obtain⟨xs,h1,h2⟩:=h;exact⟨xs,h1.updT hb hT x,h2⟩
theorem Zo.updOT {b':Nat}{B:Option Addr}{m c s':Nat}{T:TypeId}{us:List Value}(h:Zo w b s A n cap z) (ho:Own w b' T s' B m c us) (x:UpdO B w w') (hT:24≠T:=by decide):Zo w' b s A n cap z:=by obtain⟨xs,h1,h2⟩:=h;exact⟨xs,h1.updOT ho hT x,h2⟩
end
def El (m:Option World) (b:Nat) (w:World) (e:ZC) (z:Int):Prop:=Zr w b e.s e.A e.n e.c z∨∃w0,m=some w0∧(Zi w0 e.s e.A e.n e.c z∨Zo w b e.s e.A e.n e.c z)
theorem El.ext {m:Option World}{b:Nat}{w w':World}{e:ZC}{z:Int}(h:El m b w e z) (x:Ext w w'):El m b w' e z:=h.imp (·.ext x) (fun⟨w0,h1,h2⟩=>⟨w0,h1,h2.imp id (·.ext x)⟩)
theorem El.updT {m:Option World}{b g:Nat}{w w':World}{e:ZC}{z:Int}{T:TypeId}{us:List Value}(h:El m b w e z) (hb:Bk w g T us) (x:Upd g w w') (hT:24≠T:=by decide):El m b w' e z:=h.imp (·.updT hb x hT) (fun⟨w0,h1,h2⟩=>⟨w0,h1,h2.imp id (·.updT hb x hT)⟩)
theorem El.mono {m:Option World}{b b':Nat}{w:World}{e:ZC}{z:Int}(h:El m b w e z) (x:b'≤b):El m b' w e z:=h.imp (·.mono x) (fun⟨w0,h1,h2⟩=>⟨w0,h1,h2.imp id (·.mono x)⟩)
theorem El.updOT {m:Option World}{b b':Nat}{w w':World}{e:ZC}{z:Int}{B:Option Addr}{n c s':Nat}{T:TypeId}{us:List Value}(h:El m b w e z) (ho:Own w b' T s' B n c us) (x:UpdO B w w') (hT:24≠T:=by decide):El m b w' e z:=h.imp (·.updOT ho x hT) (fun⟨w0,h1,h2⟩=>⟨w0,h1,h2.imp id (·.updOT ho x hT)⟩)
theorem El.zi {w0:World}{b:Nat}{w:World}{e:ZC}{z:Int}(h:El (some w0) b w e z) (x:Ext w0 w):Zi w e.s e.A e.n e.c z:=by
 rcases h with h | ⟨w1,h1,h2⟩
 ·exact h.zi
 ·cases h1;exact h2.elim (·.ext x) (·.zi)
def Lz (m:Option World) (K b:Nat) (w:World) (lb:Nat) (A:Option Addr) (n cap:Nat) (zs:List Int):Prop:=
 ∃es,Own w lb 43 2 A n cap (zcells es)∧es.length=n∧zs.length=n∧∀i,i<n→(es.getD i ZC.zero).n≤K∧El m b w (es.getD i ZC.zero) (zs.getD i 0)
section
variable {m:Option World}{K b lb:Nat}{w w':World}{A:Option Addr}{n cap:Nat}{zs:List Int}
theorem Lz.own (h:Lz m K b w lb A n cap zs):∃vs,Own w lb 43 2 A n cap vs:=by obtain⟨es,h1,_⟩:=h;exact⟨_,h1⟩
theorem Lz.block (h:Lz m K b w lb A n cap zs):∀a,A=some a→lb≤a.block∧a.block<w.heap.size:=by obtain⟨vs,h⟩:=h.own;exact h.block
theorem Lz.len (h:Lz m K b w lb A n cap zs):zs.length=n:=by obtain⟨es,h1,h2,h3,h4⟩:=h;exact h3
theorem Lz.le (h:Lz m K b w lb A n cap zs):n≤cap:=by obtain⟨vs,h⟩:=h.own;exact h.rv.le
theorem Lz.ext (h:Lz m K b w lb A n cap zs) (x:Ext w w'):Lz m K b w' lb A n cap zs:=by
 obtain⟨es,h1,h2,h3,h4⟩:=h
 exact⟨es,h1.ext x,h2,h3,fun i hi=>⟨(h4 i hi).1,(h4 i hi).2.ext x⟩⟩
theorem Lz.updT {g:Nat}{T:TypeId}{us:List Value}(h:Lz m K b w lb A n cap zs) (hb:Bk w g T us) (x:Upd g w w') (hne:∀p,A=some p→p.block≠g) (hT:24≠T:=by decide):Lz m K b w' lb A n cap zs:=by
 obtain⟨es,h1,h2,h3,h4⟩:=h
 exact⟨es,h1.upd x hne,h2,h3,fun i hi=>⟨(h4 i hi).1,(h4 i hi).2.updT hb x hT⟩⟩
theorem Lz.updO {B:Option Addr}{lb' c k:Nat}{us:List Value}(h:Lz m K b w lb A n cap zs) (ho:Own w lb' 43 2 B k c us) (x:UpdO B w w') (hne:∀p q,B=some p→A=some q→p.block≠q.block):Lz m K b w' lb A n cap zs:=by
 obtain⟨es,h1,h2,h3,h4⟩:=h
 exact⟨es,h1.updO x hne,h2,h3,fun i hi=>⟨(h4 i hi).1,(h4 i hi).2.updOT ho x⟩⟩
theorem Lz.nil (m:Option World) (K b:Nat) (w:World) (lb:Nat):Lz m K b w lb none 0 0 []:=⟨[],Own.nil _ _ _ _,rfl,rfl,fun i hi=>by omega⟩
theorem Lz.mono {K' b' lb':Nat}(h:Lz m K b w lb A n cap zs) (hK:K≤K') (hb:b'≤b) (hl:lb'≤lb):Lz m K' b' w lb' A n cap zs:=by
 obtain⟨es,h1,h2,h3,h4⟩:=h
 exact⟨es,h1.mono hl,h2,h3,fun i hi=>⟨Nat.le_trans (h4 i hi).1 hK,(h4 i hi).2.mono hb⟩⟩
theorem Lz.at (h:Lz m K b w lb A n cap zs){i:Nat}(hi:i<n):
  ∃p s B k c,A.map (·.add (i*2))=some p∧(∀w',Ext w w'→∀(P:Program) (T:TypeId),AggT P T 2→(loadVar T p).run P w'= .ok (.agg #[.bool s,.slice B k c]) w')∧k≤K∧El m b w ⟨s,B,k,c⟩ (zs.getD i 0):=by
 obtain⟨es,h1,h2,h3,h4⟩:=h
 obtain⟨a,ha,hc⟩:=h1.rv.get (i*2) (by omega)
 obtain⟨a',ha',hc'⟩:=h1.rv.get (i*2+1) (by omega)
 rw [ha] at ha';cases ha'
 have g0:=zcells_get0 es i (by omega)
 have g1:=zcells_get1 es i (by omega)
 rw [List.getD_eq_getElem?_getD,g0] at hc
 rw [List.getD_eq_getElem?_getD,g1] at hc'
 refine⟨a.add (i*2),_,_,_,_,by rw [ha];rfl,fun w' e P T hT=>load_at hT [.bool (es.getD i ZC.zero).s,.slice (es.getD i ZC.zero).A (es.getD i ZC.zero).n (es.getD i ZC.zero).c] rfl (fun j hj=>?_),(h4 i hi).1,(h4 i hi).2⟩
 rw [add_of_add]
 match j,hj with
 | 0,_=>exact e.cell hc
 | 1,_=>exact e.cell hc'
end
section
variable {Q:Exit→Act→World→Prop}{N:Nat}{l:Fr}{w:World}{ops:Array Oper}{rest:List Oper}{d:Nat}{ty:TypeId}{pos:String}{af:Array Edge}{gd:Option (Nat×Bool)}
end
end Go.Proofs.Ytgilhcdglaneiaa

namespace Go.Proofs.Ytgilhcdglaneiaa
open Go.RowKit
open Ieee
theorem app_DivMod {w:World}{b:Nat}(hb:b≤w.heap.size){A B:Option Addr}{n c n' c' m m':Nat}(hx:Wi w A n c m) (hl:n≤274877906944) (hy:Wi w B n' c' m') (hl':n'≤274877906944) (h0:m'≠0):Calls Try.prog 57 #[.slice A n c,.slice B n' c'] w (Gv w (T3 (WR b (m/m')) (WR b (m%m')) (Is (.int .i64 0)))):=by
 obtain⟨xs,h1,rfl⟩:=hx
 obtain⟨ys,h2,rfl⟩:=hy
 refine (divnat_DivMod h1 hl h2 hl' h0).mono fun e w' h=>?_
 obtain⟨A,n,cap,B,m,cap',rfl,h3,_,h4,h5,_,h6,h7⟩:=h
 exact⟨_,rfl,⟨_,_,_,rfl,⟨A,n,cap,rfl,h3.out,h4.mono hb⟩,⟨B,m,cap',rfl,h5.out,h6.mono hb⟩,rfl⟩,h7⟩
theorem app_BitLen {w:World}{A:Option Addr}{n c m:Nat}(hx:Wi w A n c m) (hl:n≤1099511627775):Calls Try.prog 52 #[.slice A n c] w (Gv w (Is (.int .i64 ((blen m:Nat):Int)))):=by
 obtain⟨xs,h1,rfl⟩:=hx
 refine (nat_BitLen h1 hl).mono fun e w' h=>?_
 obtain⟨k,h2,rfl,h3⟩:=h
 exact⟨_,rfl,(show Value.int .i64 (k:Int)=_ by rw [h2.out]),h3⟩
theorem app_Shl {w:World}{A:Option Addr}{m c n b M:Nat}(hb0:b≤w.heap.size) (hx:Wi w A m c M) (hm:m≤1073741824) (hn:n≤1048576):Calls Try.prog 77 #[.slice A m c,.int .i64 ((n:Nat):Int)] w (Gv w (T2 (WR b (M*2^n)) (Is (.int .i64 0)))):=by
 obtain⟨xs,h1,rfl⟩:=hx
 exact g_nat_Shl hb0 h1 hm hn
def sgB (ng:Bool) (b:Nat):Nat:=if ng=true∧b≠0 then b+9223372036854775808 else b
theorem xor_sign {b:Nat}(h:b<9223372036854775808):b^^^9223372036854775808=b+9223372036854775808:=by
 have e:(9223372036854775808:Nat)=2^63:=rfl
 rw [e] at h⊢
 refine Nat.eq_of_testBit_eq fun i=>?_
 rw [Nat.testBit_xor,Nat.testBit_two_pow,Nat.add_comm]
 rcases Nat.lt_trichotomy i 63 with h1 | h1 | h1
 ·rw [Nat.testBit_two_pow_add_gt h1]
  have:decide (63=i)=false:=by simp;omega
  rw [this,Bool.xor_false]
 ·subst h1
  rw [Nat.testBit_two_pow_add_eq,Nat.testBit_lt_two_pow h];rfl
 ·have h2:(2:Nat)^64≤2^i:=Nat.pow_le_pow_right (by decide) h1
  rw [Nat.testBit_lt_two_pow (Nat.lt_of_lt_of_le (show 2^63+b<2^64 by omega) h2),Nat.testBit_lt_two_pow (Nat.lt_of_lt_of_le (show b<2^64 by omega) h2)]
  have:decide (63=i)=false:=by simp;omega
  rw [this];rfl
theorem ne0_t {b:Nat}(h:b≤9218868437227405312) (h0:b≠0):(FloatKind.f64.format.order b 0 != some .eq)=true:=by
 show (double.order b 0 != some .eq)=true
 by_cases hf:fin b
 ·rw [order_zero hf]
  unfold fin mg at hf
  unfold mg
  rw [if_neg (by omega)]
  split <;> rfl
 ·have:=order_zero_not hf
  unfold bne
  rw [this];rfl
theorem ne0_f:(FloatKind.f64.format.order 0 0 != some .eq)=false:=by decide
theorem len_shl {m k n:Nat}(h:(wd m).length≤n) (hk:k≤4096):(wd (m*2^k)).length≤n+65:=by
 refine len_wd_le ?_
 have h1:=lt_pow_len m
 have h2:m<WB^n:=Nat.lt_of_lt_of_le h1 (Nat.pow_le_pow_right WB_pos h)
 have h4:(2:Nat)^k<WB^65:=by
  have e:WB^65=2^(64*65):=by rw [WB_pow,←Nat.pow_mul]
  rw [e]
  generalize hz:64*65=z
  exact Nat.pow_lt_pow_right (by decide) (by omega)
 rw [Nat.pow_add]
 exact Nat.mul_lt_mul'' h2 h4
theorem blen_bd2 {m n:Nat}(h:(wd m).length≤n):blen m≤64*n:=by
 refine blen_le ?_
 have h1:=lt_pow_len m
 rw [WB_pow,←Nat.pow_mul] at h1
 exact Nat.lt_of_lt_of_le h1 (Nat.pow_le_pow_right (by decide) (Nat.mul_le_mul_left _ h))
theorem cv_neg {k:Nat}(h:k≤9223372036854775807):Value.int .i64 (IntKind.i64.wrap (0- -((k:Nat):Int)))= .int .i64 (k:Int):=by
 rw [IntWalk.i64_in _ ⟨by omega,by omega⟩];congr 1;omega
theorem u64_shl52 {x:Nat}(h:x≤4095) (P:Program) (t:TypeId) (w:World):(binOp .shl t (.int .u64 (x:Int)) (.int .u64 52)).run P w= .ok (.int .u64 ((x*4503599627370496:Nat):Int)) w:=by
 have e:=u64_shl (x:=x) (s:=52) (by decide) P t w
 have e2:x*2^52%18446744073709551616=x*4503599627370496:=by
  rw [show (2:Nat)^52=4503599627370496 from rfl];omega
 rw [e2] at e;exact e
theorem u64_mask {x d:Nat}(hx:x≤18446744073709551615) (hd:d≤63) (P:Program) (t:TypeId) (w:World):(binOp .and t (.int .u64 (x:Int)) (.int .u64 ((2^d-1:Nat):Int))).run P w= .ok (.int .u64 ((x%2^d:Nat):Int)) w:=by
 have h1:2^d≤2^63:=Nat.pow_le_pow_right (by decide) hd
 have e2:(binOp .and t (.int .u64 (x:Int)) (.int .u64 ((2^d-1:Nat):Int))).run P w= .ok (.int .u64 (bits BinOp.and IntKind.u64 (x:Int) ((2^d-1:Nat):Int))) w:=rfl
 rw [e2]
 have e3:bits BinOp.and IntKind.u64 (x:Int) ((2^d-1:Nat):Int)=((x&&& (2^d-1):Nat):Int):=by
  have e:IntKind.u64.wrap ((BitVec.ofInt 64 (x:Int)&&& BitVec.ofInt 64 ((2^d-1:Nat):Int)).toNat:Int)=((x&&& (2^d-1):Nat):Int):=by
   rw [BitVec.toNat_and,ofInt_64 hx,ofInt_64 (by omega),wrap_u64_nat,Nat.mod_eq_of_lt (Nat.lt_of_le_of_lt Nat.and_le_left (by omega))]
  exact e
 rw [e3,Nat.and_two_pow_sub_one_eq_mod]
theorem u64_shl1A {s:Nat}(hs:s≤63) (P:Program) (t:TypeId) (w:World):(binOp .shl t (.int .u64 1) (.int .u64 (s:Int))).run P w= .ok (.int .u64 ((2^s:Nat):Int)) w:=by
 have e:=u64_shl (x:=1) (s:=s) (by omega) P t w
 have h1:2^s≤2^63:=Nat.pow_le_pow_right (by decide) hs
 rw [Nat.one_mul,Nat.mod_eq_of_lt (by omega)] at e;exact e
theorem wl_mmA {P:Program}{Q:Exit→Act→World→Prop}{n:Nat}{l:Fr}{w:World}{ops:Array Oper}{rest:List Oper}{d:Nat}{ty:TypeId}{pos:String}{af:Array Edge}{gd:Option (Nat×Bool)}{x y:Operand}{ts:Array TypeId}{k:IntKind}{a b:Int}(hw:guardB ops l gd=some true)
  (hx:evo l x=some (.int k a)) (hy:evo l y=some (.int k b)) (c:Int) (hc:max a b=c) (hn:d<n) (h:wl P ops Q n rest ((d,.int k c)::l) w):wl P ops Q n (⟨some d,.call {callee:= .builtin .max,args:= #[x,y],argTypes:=ts},ty,pos,af,gd⟩::rest) l w:=by
 refine wl_val hw hn (fun a' ha=>?_) h
 have e:(if b>a then b else a)=c:=by rw [←hc];split <;> omega
 unfold execOp
 simp only [resolve,invoke,builtin,Sem.run_bind,Sem.run_pure,Result.andThen_ok,List.map_toArray,List.map_cons,List.map_nil,ha.ev hx,ha.ev hy,Builtin.max_,List.foldlM,Builtin.max2,e]
theorem wl_miA {P:Program}{Q:Exit→Act→World→Prop}{n:Nat}{l:Fr}{w:World}{ops:Array Oper}{rest:List Oper}{d:Nat}{ty:TypeId}{pos:String}{af:Array Edge}{gd:Option (Nat×Bool)}{x y:Operand}{ts:Array TypeId}{k:IntKind}{a b:Int}(hw:guardB ops l gd=some true)
  (hx:evo l x=some (.int k a)) (hy:evo l y=some (.int k b)) (c:Int) (hc:min a b=c) (hn:d<n) (h:wl P ops Q n rest ((d,.int k c)::l) w):wl P ops Q n (⟨some d,.call {callee:= .builtin .min,args:= #[x,y],argTypes:=ts},ty,pos,af,gd⟩::rest) l w:=by
 refine wl_val hw hn (fun a' ha=>?_) h
 have e:(if b<a then b else a)=c:=by rw [←hc];split <;> omega
 unfold execOp
 simp only [resolve,invoke,builtin,Sem.run_bind,Sem.run_pure,Result.andThen_ok,List.map_toArray,List.map_cons,List.map_nil,ha.ev hx,ha.ev hy,Builtin.min_,List.foldlM,Builtin.min2,e]
theorem own_word {w:World}{b n c q:Nat}{A:Option Addr}(h:Own w b 24 1 A n c ((wd q).map W64)) (hn:n=(wd q).length) (h1:(wd q).length=1):∃p,A.map (·.add (0*1))=some p∧w.cell? p=some (.int .u64 ((q:Nat):Int)):=by
 obtain⟨p,hp,hc,_⟩:=(h.rd (Wf_wd _)).at (i:=0) (by omega)
 refine⟨p,hp,?_⟩
 have e:(wd q).getD 0 0=q:=by
  have h2:=nv_wd q
  rcases hw:wd q with _ | ⟨x,r⟩
  ·rw [hw] at h1;simp at h1
  ·rw [hw] at h1 h2
   have:r= []:=List.length_eq_zero_iff.1 (by simpa using h1)
   subst this
   rw [←h2];simp [nv]
 rw [e] at hc;exact hc
theorem len_w1 {q:Nat}(h0:q≠0) (h:q≤18446744073709551615):(wd q).length=1:=by
 have h1:(wd q).length≤1:=len_wd_le (by rw [WB_def,Nat.pow_one];omega)
 have h2:(wd q).length≠0:=fun e=>h0 (len_wd_zero.1 e)
 omega
theorem lt56 {q:Nat}(h:blen q=55∨blen q=56):q<72057594037927936:=by
 have h1:(2:Nat)^blen q≤2^56:=Nat.pow_le_pow_right (by decide) (by omega)
 exact Nat.lt_of_lt_of_le (lt_blen q) h1
theorem min_castA (a b:Nat):min (a:Int) (b:Int)=((min a b:Nat):Int):=by omega
theorem near_up {X D k p d z:Nat}(h:k+p=z+d):X*2^k*2^p*D=X*2^z*(D*2^d):=by
 have e:(2:Nat)^k*2^p=2^z*2^d:=by rw [←Nat.pow_add,←Nat.pow_add,h]
 rw [Nat.mul_assoc X,e,Nat.mul_comm D,←Nat.mul_assoc X,Nat.mul_assoc (X*2^z)]
theorem near_dn {X D k p d z:Nat}(h:p=z+k+d):X*2^p*D=X*2^z*(D*2^k*2^d):=by
 rw [h,Nat.pow_add,Nat.pow_add,Nat.mul_assoc D,←Nat.mul_assoc X,←Nat.mul_assoc X,Nat.mul_assoc (X*2^z),Nat.mul_assoc (X*2^z),Nat.mul_comm (2^k*2^d) D]
theorem near_m53 {q d:Nat}(h:blen q≤d+53) (h2:2≤d):q/2^d<9007199254740992:=by
 refine (Nat.div_lt_iff_lt_mul (Nat.two_pow_pos d)).2 (Nat.lt_of_lt_of_le (lt_blen q) ?_)
 rw [show (9007199254740992:Nat)=2^53 from rfl,←Nat.pow_add]
 exact Nat.pow_le_pow_right (by decide) (by omega)
theorem near_z {z D:Nat}(hD:0<D):nearB (0*2^z) D=0:=by
 unfold nearB
 rw [Nat.zero_mul,near_tiny hD (by omega)]
 rfl
theorem near_low {X D:Nat}(hX:X≠0) (hD:0<D) (h:((blen X:Nat):Int)-((blen D:Nat):Int)< -1080):nearB (X*2^e74) D=0:=by
 have h1:=lt_blen X
 have h2:=blen_le_self (n:=D) (by omega)
 have h3:X*2^e74*2<D:=by
  refine Nat.lt_of_lt_of_le ?_ h2
  have e:X*2^e74*2=X*2^(e74+1):=by rw [Nat.mul_assoc,←Nat.pow_succ]
  rw [e]
  refine Nat.lt_of_lt_of_le ((Nat.mul_lt_mul_right (Nat.two_pow_pos (e74+1))).2 h1) ?_
  rw [←Nat.pow_add]
  have h74:=e74_eq
  exact Nat.pow_le_pow_right (by decide) (by omega)
 unfold nearB
 rw [near_tiny hD (by omega)]
 rfl
theorem near_high {X D:Nat}(hX:X≠0) (hD:0<D) (h:1025<((blen X:Nat):Int)-((blen D:Nat):Int)):nearB (X*2^e74) D=9218868437227405312:=by
 have h1:=blen_le_self hX
 have h2:=lt_blen D
 have h3:D*(2^e98*2)≤X*2^e74:=by
  have e1:D*(2^e98*2)≤2^(blen D+1025)*2^e74:=by
   have e0:e98.succ=1025+e74:=by rw [e98_eq,e74_eq]
   rw [←Nat.pow_succ,e0,←Nat.pow_add,Nat.add_assoc,Nat.pow_add 2 (blen D)]
   exact Nat.mul_le_mul_right _ (Nat.le_of_lt h2)
  refine Nat.le_trans e1 (Nat.mul_le_mul_right _ (Nat.le_trans ?_ h1))
  exact Nat.pow_le_pow_right (by decide) (by omega)
 have:=near_huge hD h3
 unfold nearB
 omega
theorem near_drop {X D N E d p q:Nat}(hD:0<D) (hE:0<E) (hcr:N*2^p*D=X*(E*2^d)) (hp:p=0) (hq:N/E=q) (hq56:q<72057594037927936) (hd:60<d):nearB X D=0:=by
 subst hp
 rw [Nat.pow_zero,Nat.mul_one] at hcr
 have hN:N<E*72057594037927936:=by rw [Nat.mul_comm];exact (Nat.div_lt_iff_lt_mul hE).1 (by rw [hq];exact hq56)
 have h61:(2:Nat)^61≤2^d:=Nat.pow_le_pow_right (by decide) hd
 have h1:2*X<D:=by
  refine Nat.lt_of_mul_lt_mul_left (a:=E*2^d) ?_
  have e1:E*2^d*(2*X)=2*(N*D):=by rw [hcr,Nat.mul_left_comm,Nat.mul_comm X]
  rw [e1]
  have e2:N*D<E*72057594037927936*D:=(Nat.mul_lt_mul_right hD).2 hN
  have e3:E*72057594037927936*D*32=E*2^61*D:=by rw [show (2:Nat)^61=72057594037927936*32 from rfl,←Nat.mul_assoc E,Nat.mul_right_comm]
  have e4:E*2^61*D≤E*2^d*D:=Nat.mul_le_mul_right _ (Nat.mul_le_mul_left _ h61)
  omega
 unfold nearB
 rw [near_tiny hD h1]
 rfl
set_option maxHeartbeats 4000000 in
theorem g_shifted {w:World}{b k:Nat}(hb:b≤w.heap.size) (hk:k≤4096){A:Option Addr}{n c X:Nat}(hX:Wi w A n c X) (hXn:n≤67108864):
    Calls Try.prog 43 #[.slice A n c,.int .i64 ((k:Nat):Int)] w (Gv w (WR b (X*2^k))):=by
 refine sx_enter Try.func43 rfl (n:=14) rfl (bq rfl) (args:= [.slice A n c,.int .i64 ((k:Nat):Int)]) (cw_keep [(0,.slice A n c),(1,.int .i64 ((k:Nat):Int))] ⟨rfl,rfl,trivial⟩ (sr (mv 1 rfl (ne_ (sr (mv 2 rfl (cl (vs:= [.slice A n c,.int .i64 ((k:Nat):Int)]) (Ext.refl w) (app_Shl (b:=b) (Nat.le_trans hb (Ext.refl w).size) hX (lx_ hXn rfl) (by omega)) rfl (by kernel_rfl) fun xr3 v1 r3 e2 hw1=>?_)))))))
 obtain⟨_,_,rfl,⟨A5,n5,c5,rfl,j5,o5⟩,rfl⟩:=r3
 refine mv 1 rfl (pu (v:= .slice A5 n5 c5) rfl (by kernel_rfl) (pu (v:= .int .i64 0) rfl (by kernel_rfl) (mv 2 rfl (ne_ (sr (mv 2 rfl (ne_ (cw_ret (eo_ret [.slice A5 n5 c5] rfl ⟨rfl,trivial⟩ ?_)))))))))
 exact⟨_,rfl,⟨_,_,_,rfl,j5,o5⟩,hw1⟩
set_option maxHeartbeats 4000000 in
theorem g_signed {w:World}{ng:Bool}{x:Nat}(hx:x≤9218868437227405312):
    Calls Try.prog 44 #[.bool ng,.float .f64 x] w (Gv w (Is (.float .f64 (sgB ng x)))):=by
 refine sx_enter Try.func44 rfl (n:=13) rfl (bq rfl) (args:= [.bool ng,.float .f64 x]) (cw_keep [(0,.bool ng),(1,.float .f64 x)] ⟨rfl,rfl,trivial⟩ (sr (mv 1 rfl (ne_ (cw_seq (cw_seq ?_))))))
 cases ng
 · 
  refine cw_region (mv 4 rfl (pu (v:= .bool false) rfl (by kernel_rfl) (ne_ (cw_false rfl (cw_skip (eo_then (sr (mv 2 rfl (ne_ (cw_ret (eo_ret [.float .f64 x] rfl ⟨rfl,trivial⟩ ?_)))))))))))
  exact⟨_,rfl,(show Value.float .f64 x=_ by unfold sgB;rw [if_neg (by simp)]),(Ext.refl w)⟩
 · 
  by_cases h0:x=0
  · 
   subst h0
   refine cw_region (mv 3 rfl (wl_pureE rfl rfl (v:= .bool (FloatKind.f64.format.order 0 0 != some .eq)) (v':= .bool false) (by decide) (by kernel_rfl) (congrArg Value.bool ne0_f) (pu (v:= .bool false) rfl (by kernel_rfl) (ne_ (cw_false rfl (cw_skip (eo_then (sr (mv 2 rfl (ne_ (cw_ret (eo_ret [.float .f64 0] rfl ⟨rfl,trivial⟩ ?_))))))))))))
   exact⟨_,rfl,(show Value.float .f64 0=_ by unfold sgB;rw [if_neg (by simp)]),(Ext.refl w)⟩
  · 
   refine cw_region (mv 3 rfl (wl_pureE rfl rfl (v:= .bool (FloatKind.f64.format.order x 0 != some .eq)) (v':= .bool true) (by decide) (by kernel_rfl) (congrArg Value.bool (ne0_t hx h0)) (pu (v:= .bool true) rfl (by kernel_rfl) (ne_ (cw_true rfl (sr (mv 1 rfl (pu (v:= .float .f64 (x^^^9223372036854775808)) rfl (by kernel_rfl) (mv 1 rfl (ne_ (cw_ret (eo_thenR (eo_ret [.float .f64 (x^^^9223372036854775808)] rfl ⟨rfl,trivial⟩ ?_)))))))))))))
   exact⟨_,rfl,(show Value.float .f64 (x^^^9223372036854775808)=_ by unfold sgB;rw [if_pos ⟨rfl,h0⟩,xor_sign (by omega)]),(Ext.refl w)⟩
set_option maxHeartbeats 8000000 in
theorem g_nearest {w:World}{A:Option Addr}{n c X:Nat}(hX:Wi w A n c X) (hXn:n≤67108864){B:Option Addr}{n' c' D:Nat}(hD:Wi w B n' c' D) (hDn:n'≤67108864) (hD0:0<D):
    Calls Try.prog 45 #[.slice A n c,.slice B n' c'] w (Gv w (Is (.float .f64 (nearB (X*2^e74) D)))):=by
 refine sx_enter Try.func45 rfl (n:=109) rfl (bq rfl) (args:= [.slice A n c,.slice B n' c']) (cw_keep [(0,.slice A n c),(1,.slice B n' c')] ⟨rfl,rfl,trivial⟩ (sr (mv 1 rfl (ne_ (cw_seq ?_)))))
 have hXl:=hX.len
 have hDl:=hD.len
 have hXl:(wd X).length≤67108864:=Nat.le_trans hXl hXn
 have hDl:(wd D).length≤67108864:=Nat.le_trans hDl hDn
 have hbX:=blen_bd2 hXl
 have hbD:=blen_bd2 hDl
 have hDb:blen D≠0:=fun e=>by have:=blen_eq_zero.1 e;omega
 refine cw_region (mv 1 rfl (cl (vs:= [.slice A n c]) (Ext.refl w) (app_BitLen hX (lx_ hXn rfl)) rfl (by kernel_rfl) fun xr3 v1 r3 e2 hw1=>?_))
 obtain rfl:=r3
 refine mv 1 rfl (cl (vs:= [.slice B n' c']) hw1 (app_BitLen (hD.ext hw1) (lx_ hDn rfl)) rfl (by kernel_rfl) fun xr6 v4 r6 e5 hw2=>?_)
 obtain rfl:=r6
 refine wl_ar rfl rfl rfl (((blen X:Nat):Int)-((blen D:Nat):Int)) (ar_i64s rfl (by omega) (by omega)) (by decide) (mv 1 rfl (ne_ (cw_seq (cw_block (cw_seq ?_)))))
 by_cases hX0:X=0
 · 
  subst hX0
  refine cw_region (mv 1 rfl (cl (vs:= [.slice A n c]) hw2 (app_BitLen (hX.ext hw2) (lx_ hXn rfl)) rfl (by kernel_rfl) fun xr9 v7 r9 e8 hw3=>?_))
  obtain rfl:=r9
  refine wl_cmp rfl rfl rfl true (eq_t (by rw [blen_zero];rfl)) (by decide) (mv 3 rfl (pu (v:= .bool true) rfl (by kernel_rfl) (mv 1 rfl (ne_ (cw_true rfl (sr (mv 1 rfl (ne_ (cw_ret (eo_block_ret (eo_thenR (eo_ret [.float .f64 0] rfl ⟨rfl,trivial⟩ ?_))))))))))))
  exact⟨_,rfl,(show Value.float .f64 0=_ by rw [near_z hD0]),hw3⟩
 · 
  have hXb:blen X≠0:=fun e=>hX0 (blen_eq_zero.1 e)
  by_cases hlo:((blen X:Nat):Int)-((blen D:Nat):Int)< -1080
  · 
   refine cw_region (mv 1 rfl (cl (vs:= [.slice A n c]) hw2 (app_BitLen (hX.ext hw2) (lx_ hXn rfl)) rfl (by kernel_rfl) fun xr12 v10 r12 e11 hw3=>?_))
   obtain rfl:=r12
   refine wl_cmp rfl rfl rfl false (cb_eq_f (a:=blen X) (b:=0) rfl rfl (by omega)) (by decide) (mv 2 rfl (wl_cmp rfl rfl rfl true (lt_t hlo) (by decide) (pu (v:= .bool true) rfl (by kernel_rfl) (mv 1 rfl (ne_ (cw_true rfl (sr (mv 1 rfl (ne_ (cw_ret (eo_block_ret (eo_thenR (eo_ret [.float .f64 0] rfl ⟨rfl,trivial⟩ ?_)))))))))))))
   exact⟨_,rfl,(show Value.float .f64 0=_ by rw [near_low hX0 hD0 (by omega)]),hw3⟩
  · 
   by_cases hhi:1025<((blen X:Nat):Int)-((blen D:Nat):Int)
   · 
    refine cw_region (mv 1 rfl (cl (vs:= [.slice A n c]) hw2 (app_BitLen (hX.ext hw2) (lx_ hXn rfl)) rfl (by kernel_rfl) fun xr15 v13 r15 e14 hw3=>?_))
    obtain rfl:=r15
    refine wl_cmp rfl rfl rfl false (cb_eq_f (a:=blen X) (b:=0) rfl rfl (by omega)) (by decide) (mv 2 rfl (wl_cmp rfl rfl rfl false (lt_f (by omega)) (by decide) (pu (v:= .bool false) rfl (by kernel_rfl) (mv 1 rfl (ne_ (cw_false rfl (sr (mv 1 rfl (wl_cmp rfl rfl rfl true (gt_t hhi) (by decide) (mv 1 rfl (ne_ (cw_true rfl (cw_seq ?_)))))))))))))
    refine cw_region (pu (v:= .float .f64 9218868437227405312) rfl (by kernel_rfl) (mv 1 rfl (ne_ (cw_ret (eo_block_ret (eo_thenR (eo_ret [.float .f64 9218868437227405312] rfl ⟨rfl,trivial⟩ ?_)))))))
    exact⟨_,rfl,(show Value.float .f64 9218868437227405312=_ by rw [near_high hX0 hD0 (by omega)]),hw3⟩
   · 
    refine cw_region (mv 1 rfl (cl (vs:= [.slice A n c]) hw2 (app_BitLen (hX.ext hw2) (lx_ hXn rfl)) rfl (by kernel_rfl) fun xr18 v16 r18 e17 hw3=>?_))
    obtain rfl:=r18
    refine wl_cmp rfl rfl rfl false (cb_eq_f (a:=blen X) (b:=0) rfl rfl (by omega)) (by decide) (mv 2 rfl (wl_cmp rfl rfl rfl false (lt_f (by omega)) (by decide) (pu (v:= .bool false) rfl (by kernel_rfl) (mv 1 rfl (ne_ (cw_false rfl (sr (mv 1 rfl (wl_cmp rfl rfl rfl false (gt_f (by omega)) (by decide) (mv 1 rfl (ne_ (cw_false rfl (cw_skip ?_)))))))))))))
    refine eo_block_normal (eo_then (cw_seq ?_))
    by_cases hes:((blen X:Nat):Int)-((blen D:Nat):Int)≤55
    · 
     obtain⟨k,hk⟩:∃k:Nat,55-(((blen X:Nat):Int)-((blen D:Nat):Int))=(k:Int):=⟨(55-(((blen X:Nat):Int)-((blen D:Nat):Int))).toNat,by omega⟩
     refine cw_region (mv 1 rfl (wl_ar rfl rfl rfl ((k:Nat):Int) (ar_i64s hk (by omega) (by omega)) (by decide) (mv 1 rfl (ne_ (cw_seq (sr (mv 1 rfl (wl_cmp rfl rfl rfl true (cb_ge_t (a:=k) (b:=0) rfl rfl (by omega)) (by decide) (ne_ (cw_true rfl (cw_region (mv 2 rfl (cl (vs:= [.slice A n c,.int .i64 ((k:Nat):Int)]) hw3 (g_shifted (b:=w.heap.size) hw3.size (by omega) (hX.ext hw3) (lx_ hXn rfl)) rfl (by kernel_rfl) fun xr21 v19 r21 e20 hw4=>?_)))))))))))))
     obtain⟨A22,n22,c22,rfl,j22,o22⟩:=r21
     refine mv 1 rfl (ne_ (cw_seq ?_))
     have hbl:blen (X*2^k)=blen D+55:=by rw [blen_shl hX0];omega
     have hE0:D≠0:=by omega
     refine cw_region (mv 2 rfl (cl (vs:= [.slice A22 n22 c22,.slice B n' c']) hw4 (app_DivMod hw4.size o22.wi (by rw [j22];exact Nat.le_trans (len_shl (n:=67108864) hXl (by omega)) (by decide)) (hD.ext hw4) (lx_ hDn rfl) hE0) rfl (by kernel_rfl) fun xr25 v23 r25 e24 hw5=>?_))
     obtain⟨_,_,_,rfl,⟨A27,n27,c27,rfl,j27,o27⟩,⟨A28,n28,c28,rfl,j28,o28⟩,rfl⟩:=r25
     refine mv 1 rfl (pu (v:= .slice A27 n27 c27) rfl (by kernel_rfl) (pu (v:= .slice A28 n28 c28) rfl (by kernel_rfl) (pu (v:= .int .i64 0) rfl (by kernel_rfl) (mv 3 rfl (ne_ (cw_seq ?_))))))
     have hqb:=blen_quot (Nat.pos_of_ne_zero hE0) hbl
     obtain⟨q,hq⟩:∃q,(X*2^k)/D=q:=⟨_,rfl⟩
     obtain⟨r,hr⟩:∃r,(X*2^k)%D=r:=⟨_,rfl⟩
     rw [hq] at hqb j27 o27
     rw [hr] at j28 o28
     replace hq:=Lib.hid hq
     replace hr:=Lib.hid hr
     have hq0:q≠0:=fun e=>by rw [e,blen_zero] at hqb;omega
     have hq56:q<72057594037927936:=lt56 hqb
     have hq1:=len_w1 hq0 (by omega)
     refine cw_region (mv 1 rfl ?_)
     obtain⟨p29,hp29,hc29⟩:=own_word o27 j27 hq1
     refine wl_idx rfl rfl rfl un_u64 sz_u64 0 rfl (by rw [j27,hq1];decide) p29 hp29 (by decide) (wl_load rfl rfl (load_cell1 ag_u64 hc29) (by decide) (mv 1 rfl (ne_ (cw_seq ?_))))
     obtain⟨d,hd⟩:∃d:Nat,max (((blen q:Nat):Int)-((k:Nat):Int)-53) (-1074)=(d:Int)-((k:Nat):Int):=⟨(max (((blen q:Nat):Int)-((k:Nat):Int)-53) (-1074)+((k:Nat):Int)).toNat,by omega⟩
     have hd2:2≤d:=by omega
     have hdb:blen q≤d+53:=by omega
     obtain⟨p,hp⟩:∃p:Nat,(d:Int)-((k:Nat):Int)- -1074=(p:Int):=⟨((d:Int)-((k:Nat):Int)+1074).toNat,by omega⟩
     have hpz:p=0∨blen q=d+53:=by omega
     have hpu:p≤2048:=by omega
     refine cw_region (mv 1 rfl (cl (vs:= [.slice A27 n27 c27]) hw5 (app_BitLen o27.wi (by rw [j27];exact Nat.le_trans (Nat.le_of_eq hq1) (by decide))) rfl (by kernel_rfl) fun xr32 v30 r32 e31 hw6=>?_))
     obtain rfl:=r32
     refine mv 1 rfl (wl_ar rfl rfl rfl (((blen q:Nat):Int)-((k:Nat):Int)) (ar_i64s rfl (by omega) (by omega)) (by decide) (wl_ar rfl rfl rfl ((((blen q:Nat):Int)-((k:Nat):Int))-53) (ar_i64s rfl (by omega) (by omega)) (by decide) (wl_mmA rfl rfl rfl ((d:Int)-((k:Nat):Int)) hd (by decide) (mv 1 rfl (ne_ (sr (mv 2 rfl (wl_ar rfl rfl rfl ((d:Nat):Int) (ar_i64 (by omega) (by omega) (by omega)) (by decide) (mv 1 rfl (ne_ (cw_seq (cw_seq ?_))))))))))))
     by_cases hd60:60<d
     · 
      refine cw_region (mv 1 rfl (wl_cmp rfl rfl rfl true (cb_gt_t (a:=d) (b:=60) rfl rfl (by omega)) (by decide) (ne_ (cw_true rfl (sr (mv 1 rfl (ne_ (cw_ret (eo_thenR (eo_ret [.float .f64 0] rfl ⟨rfl,trivial⟩ ?_))))))))))
      exact⟨_,rfl,(show Value.float .f64 0=_ by rw [near_drop (X:=X*2^e74) (N:=X*2^k) (E:=D) (d:=d) (p:=p) hD0 (Nat.pos_of_ne_zero hE0) (near_up (by have:=e74_eq;omega)) (show p=0 by omega) hq.out hq56 (by omega)]),hw6⟩
     · 
      refine cw_region (mv 1 rfl (wl_cmp rfl rfl rfl false (cb_gt_f (a:=d) (b:=60) rfl rfl (by omega)) (by decide) (ne_ (cw_false rfl (cw_skip (eo_then (cw_seq ?_)))))))
      have hcode:=near_code (X:=X*2^e74) (D:=D) (N:=X*2^k) (E:=D) (d:=d) (p:=p) hD0 (Nat.pos_of_ne_zero hE0) (by omega) (near_up (by have:=e74_eq;omega)) (by rw [hq.out];exact hdb) (by rw [hq.out];exact hpz)
      rw [hq.out,hr.out] at hcode
      replace hcode:=Lib.hid hcode
      have hm53:=near_m53 hdb (by omega)
      have h2d:1≤2^d:=Nat.two_pow_pos d
      have h2d60:2^d≤2^60:=Nat.pow_le_pow_right (by decide) (by omega)
      have hc64:q%2^d≤q:=Nat.mod_le _ _
      have hd163:d-1≤63:=by omega
      have h2d1:2^(d-1)≤2^d:=Nat.pow_le_pow_right (by decide) (by omega)
      refine cw_region (mv 2 rfl (wl_pureE rfl rfl (v:= .int .u64 (IntKind.u64.wrap ((d:Nat):Int))) (v':= .int .u64 ((d:Nat):Int)) (by decide) (by kernel_rfl) (cv_u64 (by first | omega | exact (by omega))) (wl_op rfl rfl rfl (r:= .int .u64 ((q/2^d:Nat):Int)) rfl (fun w=>u64_shr (x:=q) (s:=d) (by omega) _ _ w) (by decide) (mv 2 rfl (wl_pureE rfl rfl (v:= .int .u64 (IntKind.u64.wrap ((d:Nat):Int))) (v':= .int .u64 ((d:Nat):Int)) (by decide) (by kernel_rfl) (cv_u64 (by first | omega | exact (by omega))) (wl_op rfl rfl rfl (r:= .int .u64 ((2^d:Nat):Int)) rfl (fun w=>u64_shl1A (s:=d) (by omega) _ _ w) (by decide) (wl_ar rfl rfl rfl (((2^d)-1:Nat):Int) (au_sub (a:=2^d) (b:=1) rfl rfl (by omega) (by omega)) (by decide) (wl_op rfl rfl rfl (r:= .int .u64 ((q%2^d:Nat):Int)) rfl (fun w=>u64_mask (x:=q) (d:=d) (by omega) (by omega) _ _ w) (by decide) (mv 2 rfl (ne_ (sr (mv 1 rfl (wl_ar rfl rfl rfl ((d-1:Nat):Int) (ai_sub (a:=d) (b:=1) rfl rfl (by omega) (by omega)) (by decide) ?_)))))))))))))
      refine wl_pureE rfl rfl (v:= .int .u64 (IntKind.u64.wrap ((d-1:Nat):Int))) (v':= .int .u64 ((d-1:Nat):Int)) (by decide) (by kernel_rfl) (cv_u64 (by first | omega | exact (by omega))) (wl_op rfl rfl rfl (r:= .int .u64 ((2^(d-1):Nat):Int)) rfl (fun w=>u64_shl1A (s:=d-1) (by omega) _ _ w) (by decide) (mv 1 rfl (ne_ (cw_seq (cw_seq ?_)))))
      by_cases hab:2^(d-1)<q%2^d
      · 
       refine cw_region (mv 2 rfl (wl_cmp rfl rfl rfl true (cb_gt_t (a:=q%2^d) (b:=2^(d-1)) rfl rfl (by omega)) (by decide) (mv 14 rfl (pu (v:= .bool true) rfl (by kernel_rfl) (ne_ (cw_true rfl (cw_region (mv 1 rfl (wl_ar rfl rfl rfl (((q/2^d)+1:Nat):Int) (au_add (a:=q/2^d) (b:=1) rfl rfl (by omega)) (by decide) (mv 1 rfl (ne_ (sr (mv 1 rfl ?_)))))))))))))
       refine wl_ar rfl rfl rfl ((p:Nat):Int) (ar_i64s hp (by omega) (by omega)) (by decide) (wl_pureE rfl rfl (v:= .int .u64 (IntKind.u64.wrap ((p:Nat):Int))) (v':= .int .u64 ((p:Nat):Int)) (by decide) (by kernel_rfl) (cv_u64 (by first | omega | exact (by omega))) (wl_op rfl rfl rfl (r:= .int .u64 ((p*4503599627370496:Nat):Int)) rfl (fun w=>u64_shl52 (x:=p) (by omega) _ _ w) (by decide) (mv 1 rfl (wl_ar rfl rfl rfl (((p*4503599627370496)+((q/2^d)+1):Nat):Int) (au_add (a:=p*4503599627370496) (b:=(q/2^d)+1) rfl rfl (by omega)) (by decide) (mv 1 rfl (ne_ (sr (mv 1 rfl ?_))))))))
       obtain⟨m64,hm64⟩:∃m,min ((p*4503599627370496)+((q/2^d)+1)) 9218868437227405312=m:=⟨_,rfl⟩
       replace hm64:=Lib.hid hm64
       refine wl_miA rfl rfl rfl (((m64:Nat):Int)) ((min_castA ((p*4503599627370496)+((q/2^d)+1)) 9218868437227405312).trans (by rw [hm64.out])) (by decide) (pu (v:= .float .f64 m64) rfl (by kernel_rfl) (mv 1 rfl (ne_ (cw_ret (eo_ret [.float .f64 m64] rfl ⟨rfl,trivial⟩ ?_)))))
       replace hcode:=hcode.out
       rw [if_pos (Or.inl hab)] at hcode
       exact⟨_,rfl,(show Value.float .f64 m64=_ by unfold nearB;rw [hcode,hm64.out]),hw6⟩
      · 
       by_cases heq:q%2^d=2^(d-1)
       · 
        by_cases hr0:r≠0
        · 
         have hln:n28≠0:=by rw [j28];exact fun e=>hr0 (len_wd_zero.1 e)
         refine cw_region (mv 2 rfl (wl_cmp rfl rfl rfl false (cb_gt_f (a:=q%2^d) (b:=2^(d-1)) rfl rfl (by omega)) (by decide) (mv 3 rfl (wl_cmp rfl rfl rfl true (cb_eq_t (a:=q%2^d) (b:=2^(d-1)) rfl rfl (by omega)) (by decide) (mv 2 rfl (pu (v:= .int .i64 ((n28:Nat):Int)) rfl (by kernel_rfl) (wl_cmp rfl rfl rfl true (cb_gt_t (a:=n28) (b:=0) rfl rfl (by omega)) (by decide) (mv 4 rfl (pu (v:= .bool true) rfl (by kernel_rfl) (pu (v:= .bool true) rfl (by kernel_rfl) (pu (v:= .bool true) rfl (by kernel_rfl) (ne_ (cw_true rfl ?_)))))))))))))
         refine cw_region (mv 1 rfl (wl_ar rfl rfl rfl (((q/2^d)+1:Nat):Int) (au_add (a:=q/2^d) (b:=1) rfl rfl (by omega)) (by decide) (mv 1 rfl (ne_ (sr (mv 1 rfl (wl_ar rfl rfl rfl ((p:Nat):Int) (ar_i64s hp (by omega) (by omega)) (by decide) (wl_pureE rfl rfl (v:= .int .u64 (IntKind.u64.wrap ((p:Nat):Int))) (v':= .int .u64 ((p:Nat):Int)) (by decide) (by kernel_rfl) (cv_u64 (by first | omega | exact (by omega))) (wl_op rfl rfl rfl (r:= .int .u64 ((p*4503599627370496:Nat):Int)) rfl (fun w=>u64_shl52 (x:=p) (by omega) _ _ w) (by decide) (mv 1 rfl (wl_ar rfl rfl rfl (((p*4503599627370496)+((q/2^d)+1):Nat):Int) (au_add (a:=p*4503599627370496) (b:=(q/2^d)+1) rfl rfl (by omega)) (by decide) (mv 1 rfl (wl_nil ?_)))))))))))))
         refine eo_then (sr (mv 1 rfl ?_))
         obtain⟨m64,hm64⟩:∃m,min ((p*4503599627370496)+((q/2^d)+1)) 9218868437227405312=m:=⟨_,rfl⟩
         replace hm64:=Lib.hid hm64
         refine wl_miA rfl rfl rfl (((m64:Nat):Int)) ((min_castA ((p*4503599627370496)+((q/2^d)+1)) 9218868437227405312).trans (by rw [hm64.out])) (by decide) (pu (v:= .float .f64 m64) rfl (by kernel_rfl) (mv 1 rfl (ne_ (cw_ret (eo_ret [.float .f64 m64] rfl ⟨rfl,trivial⟩ ?_)))))
         replace hcode:=hcode.out
         rw [if_pos (Or.inr ⟨heq,Or.inl hr0⟩)] at hcode
         exact⟨_,rfl,(show Value.float .f64 m64=_ by unfold nearB;rw [hcode,hm64.out]),hw6⟩
        · 
         have hln:n28=0:=by rw [j28];exact len_wd_zero.2 (by omega)
         by_cases hod:q/2^d%2=1
         · 
          refine cw_region (mv 2 rfl (wl_cmp rfl rfl rfl false (cb_gt_f (a:=q%2^d) (b:=2^(d-1)) rfl rfl (by omega)) (by decide) (mv 3 rfl (wl_cmp rfl rfl rfl true (cb_eq_t (a:=q%2^d) (b:=2^(d-1)) rfl rfl (by omega)) (by decide) (mv 2 rfl (pu (v:= .int .i64 ((n28:Nat):Int)) rfl (by kernel_rfl) (wl_cmp rfl rfl rfl false (cb_gt_f (a:=n28) (b:=0) rfl rfl (by omega)) (by decide) (mv 2 rfl (wl_op rfl rfl rfl (r:= .int .u64 (((q/2^d)%2:Nat):Int)) rfl (fun w=>u64_and1 (x:=q/2^d) (by first | omega | exact (by omega)) _ _ w) (by decide) (wl_cmp rfl rfl rfl true (cb_eq_t (a:=(q/2^d)%2) (b:=1) rfl rfl (by omega)) (by decide) (pu (v:= .bool true) rfl (by kernel_rfl) (pu (v:= .bool true) rfl (by kernel_rfl) (pu (v:= .bool true) rfl (by kernel_rfl) ?_)))))))))))))
          refine ne_ (cw_true rfl (cw_region (mv 1 rfl (wl_ar rfl rfl rfl (((q/2^d)+1:Nat):Int) (au_add (a:=q/2^d) (b:=1) rfl rfl (by omega)) (by decide) (mv 1 rfl (ne_ (sr (mv 1 rfl (wl_ar rfl rfl rfl ((p:Nat):Int) (ar_i64s hp (by omega) (by omega)) (by decide) (wl_pureE rfl rfl (v:= .int .u64 (IntKind.u64.wrap ((p:Nat):Int))) (v':= .int .u64 ((p:Nat):Int)) (by decide) (by kernel_rfl) (cv_u64 (by first | omega | exact (by omega))) (wl_op rfl rfl rfl (r:= .int .u64 ((p*4503599627370496:Nat):Int)) rfl (fun w=>u64_shl52 (x:=p) (by omega) _ _ w) (by decide) (mv 1 rfl (wl_ar rfl rfl rfl (((p*4503599627370496)+((q/2^d)+1):Nat):Int) (au_add (a:=p*4503599627370496) (b:=(q/2^d)+1) rfl rfl (by omega)) (by decide) ?_)))))))))))))
          refine mv 1 rfl (ne_ (sr (mv 1 rfl ?_)))
          obtain⟨m64,hm64⟩:∃m,min ((p*4503599627370496)+((q/2^d)+1)) 9218868437227405312=m:=⟨_,rfl⟩
          replace hm64:=Lib.hid hm64
          refine wl_miA rfl rfl rfl (((m64:Nat):Int)) ((min_castA ((p*4503599627370496)+((q/2^d)+1)) 9218868437227405312).trans (by rw [hm64.out])) (by decide) (pu (v:= .float .f64 m64) rfl (by kernel_rfl) (mv 1 rfl (ne_ (cw_ret (eo_ret [.float .f64 m64] rfl ⟨rfl,trivial⟩ ?_)))))
          replace hcode:=hcode.out
          rw [if_pos (Or.inr ⟨heq,Or.inr hod⟩)] at hcode
          exact⟨_,rfl,(show Value.float .f64 m64=_ by unfold nearB;rw [hcode,hm64.out]),hw6⟩
         · 
          refine cw_region (mv 2 rfl (wl_cmp rfl rfl rfl false (cb_gt_f (a:=q%2^d) (b:=2^(d-1)) rfl rfl (by omega)) (by decide) (mv 3 rfl (wl_cmp rfl rfl rfl true (cb_eq_t (a:=q%2^d) (b:=2^(d-1)) rfl rfl (by omega)) (by decide) (mv 2 rfl (pu (v:= .int .i64 ((n28:Nat):Int)) rfl (by kernel_rfl) (wl_cmp rfl rfl rfl false (cb_gt_f (a:=n28) (b:=0) rfl rfl (by omega)) (by decide) (mv 2 rfl (wl_op rfl rfl rfl (r:= .int .u64 (((q/2^d)%2:Nat):Int)) rfl (fun w=>u64_and1 (x:=q/2^d) (by first | omega | exact (by omega)) _ _ w) (by decide) (wl_cmp rfl rfl rfl false (cb_eq_f (a:=(q/2^d)%2) (b:=1) rfl rfl (by omega)) (by decide) (pu (v:= .bool false) rfl (by kernel_rfl) (pu (v:= .bool false) rfl (by kernel_rfl) (pu (v:= .bool false) rfl (by kernel_rfl) ?_)))))))))))))
          refine ne_ (cw_false rfl (cw_skip (eo_then (sr (mv 1 rfl (wl_ar rfl rfl rfl ((p:Nat):Int) (ar_i64s hp (by omega) (by omega)) (by decide) (wl_pureE rfl rfl (v:= .int .u64 (IntKind.u64.wrap ((p:Nat):Int))) (v':= .int .u64 ((p:Nat):Int)) (by decide) (by kernel_rfl) (cv_u64 (by first | omega | exact (by omega))) (wl_op rfl rfl rfl (r:= .int .u64 ((p*4503599627370496:Nat):Int)) rfl (fun w=>u64_shl52 (x:=p) (by omega) _ _ w) (by decide) (mv 1 rfl (wl_ar rfl rfl rfl (((p*4503599627370496)+(q/2^d):Nat):Int) (au_add (a:=p*4503599627370496) (b:=q/2^d) rfl rfl (by omega)) (by decide) (mv 1 rfl (ne_ (cw_seq ?_)))))))))))))
          refine cw_region (mv 1 rfl ?_)
          obtain⟨m64,hm64⟩:∃m,min ((p*4503599627370496)+(q/2^d)) 9218868437227405312=m:=⟨_,rfl⟩
          replace hm64:=Lib.hid hm64
          refine wl_miA rfl rfl rfl (((m64:Nat):Int)) ((min_castA ((p*4503599627370496)+(q/2^d)) 9218868437227405312).trans (by rw [hm64.out])) (by decide) (pu (v:= .float .f64 m64) rfl (by kernel_rfl) (mv 1 rfl (ne_ (cw_ret (eo_ret [.float .f64 m64] rfl ⟨rfl,trivial⟩ ?_)))))
          replace hcode:=hcode.out
          rw [if_neg (by omega)] at hcode
          exact⟨_,rfl,(show Value.float .f64 m64=_ by unfold nearB;rw [hcode,hm64.out]),hw6⟩
       · 
        refine cw_region (mv 2 rfl (wl_cmp rfl rfl rfl false (cb_gt_f (a:=q%2^d) (b:=2^(d-1)) rfl rfl (by omega)) (by decide) (mv 3 rfl (wl_cmp rfl rfl rfl false (cb_eq_f (a:=q%2^d) (b:=2^(d-1)) rfl rfl (by omega)) (by decide) (mv 9 rfl (pu (v:= .bool false) rfl (by kernel_rfl) (pu (v:= .bool false) rfl (by kernel_rfl) (ne_ (cw_false rfl (cw_skip (eo_then (sr (mv 1 rfl ?_)))))))))))))
        refine wl_ar rfl rfl rfl ((p:Nat):Int) (ar_i64s hp (by omega) (by omega)) (by decide) (wl_pureE rfl rfl (v:= .int .u64 (IntKind.u64.wrap ((p:Nat):Int))) (v':= .int .u64 ((p:Nat):Int)) (by decide) (by kernel_rfl) (cv_u64 (by first | omega | exact (by omega))) (wl_op rfl rfl rfl (r:= .int .u64 ((p*4503599627370496:Nat):Int)) rfl (fun w=>u64_shl52 (x:=p) (by omega) _ _ w) (by decide) (mv 1 rfl (wl_ar rfl rfl rfl (((p*4503599627370496)+(q/2^d):Nat):Int) (au_add (a:=p*4503599627370496) (b:=q/2^d) rfl rfl (by omega)) (by decide) (mv 1 rfl (ne_ (sr (mv 1 rfl ?_))))))))
        obtain⟨m64,hm64⟩:∃m,min ((p*4503599627370496)+(q/2^d)) 9218868437227405312=m:=⟨_,rfl⟩
        replace hm64:=Lib.hid hm64
        refine wl_miA rfl rfl rfl (((m64:Nat):Int)) ((min_castA ((p*4503599627370496)+(q/2^d)) 9218868437227405312).trans (by rw [hm64.out])) (by decide) (pu (v:= .float .f64 m64) rfl (by kernel_rfl) (mv 1 rfl (ne_ (cw_ret (eo_ret [.float .f64 m64] rfl ⟨rfl,trivial⟩ ?_)))))
        replace hcode:=hcode.out
        rw [if_neg (by omega)] at hcode
        exact⟨_,rfl,(show Value.float .f64 m64=_ by unfold nearB;rw [hcode,hm64.out]),hw6⟩
    · 
     obtain⟨k,hk⟩:∃k:Nat,55-(((blen X:Nat):Int)-((blen D:Nat):Int))= -(k:Int):=⟨(-(55-(((blen X:Nat):Int)-((blen D:Nat):Int)))).toNat,by omega⟩
     refine cw_region (mv 1 rfl (wl_ar rfl rfl rfl (-((k:Nat):Int)) (ar_i64s hk (by omega) (by omega)) (by decide) (mv 1 rfl (ne_ (cw_seq (sr (mv 1 rfl (wl_cmp rfl rfl rfl false (ge_f (by omega)) (by decide) (ne_ (cw_false rfl (cw_region (mv 2 rfl (wl_pureE rfl rfl (v:= .int .i64 (IntKind.i64.wrap (0- -((k:Nat):Int)))) (v':= .int .i64 ((k:Nat):Int)) (by decide) (by kernel_rfl) (cv_neg (by omega)) ?_)))))))))))))
     refine cl (vs:= [.slice B n' c',.int .i64 ((k:Nat):Int)]) hw3 (g_shifted (b:=w.heap.size) hw3.size (by omega) (hD.ext hw3) (lx_ hDn rfl)) rfl (by kernel_rfl) fun xr35 v33 r35 e34 hw4=>?_
     obtain⟨A36,n36,c36,rfl,j36,o36⟩:=r35
     refine mv 1 rfl (ne_ (cw_seq ?_))
     have hD1:D≠0:=by omega
     have hbl:blen X=blen (D*2^k)+55:=by rw [blen_shl hD1];omega
     have hE0:D*2^k≠0:=Nat.ne_of_gt (Nat.mul_pos hD0 (Nat.two_pow_pos k))
     refine cw_region (mv 2 rfl (cl (vs:= [.slice A n c,.slice A36 n36 c36]) hw4 (app_DivMod hw4.size (hX.ext hw4) (lx_ hXn rfl) o36.wi (by rw [j36];exact Nat.le_trans (len_shl (n:=67108864) hDl (by omega)) (by decide)) hE0) rfl (by kernel_rfl) fun xr39 v37 r39 e38 hw5=>?_))
     obtain⟨_,_,_,rfl,⟨A41,n41,c41,rfl,j41,o41⟩,⟨A42,n42,c42,rfl,j42,o42⟩,rfl⟩:=r39
     refine mv 1 rfl (pu (v:= .slice A41 n41 c41) rfl (by kernel_rfl) (pu (v:= .slice A42 n42 c42) rfl (by kernel_rfl) (pu (v:= .int .i64 0) rfl (by kernel_rfl) (mv 3 rfl (ne_ (cw_seq ?_))))))
     have hqb:=blen_quot (Nat.pos_of_ne_zero hE0) hbl
     obtain⟨q,hq⟩:∃q,X/(D*2^k)=q:=⟨_,rfl⟩
     obtain⟨r,hr⟩:∃r,X%(D*2^k)=r:=⟨_,rfl⟩
     rw [hq] at hqb j41 o41
     rw [hr] at j42 o42
     replace hq:=Lib.hid hq
     replace hr:=Lib.hid hr
     have hq0:q≠0:=fun e=>by rw [e,blen_zero] at hqb;omega
     have hq56:q<72057594037927936:=lt56 hqb
     have hq1:=len_w1 hq0 (by omega)
     refine cw_region (mv 1 rfl ?_)
     obtain⟨p43,hp43,hc43⟩:=own_word o41 j41 hq1
     refine wl_idx rfl rfl rfl un_u64 sz_u64 0 rfl (by rw [j41,hq1];decide) p43 hp43 (by decide) (wl_load rfl rfl (load_cell1 ag_u64 hc43) (by decide) (mv 1 rfl (ne_ (cw_seq ?_))))
     obtain⟨d,hd⟩:∃d:Nat,max (((blen q:Nat):Int)- -((k:Nat):Int)-53) (-1074)=(d:Int)- -((k:Nat):Int):=⟨(max (((blen q:Nat):Int)- -((k:Nat):Int)-53) (-1074)+ -((k:Nat):Int)).toNat,by omega⟩
     have hd2:2≤d:=by omega
     have hdb:blen q≤d+53:=by omega
     obtain⟨p,hp⟩:∃p:Nat,(d:Int)- -((k:Nat):Int)- -1074=(p:Int):=⟨((d:Int)- -((k:Nat):Int)+1074).toNat,by omega⟩
     have hpz:p=0∨blen q=d+53:=by omega
     have hpu:p≤2048:=by omega
     refine cw_region (mv 1 rfl (cl (vs:= [.slice A41 n41 c41]) hw5 (app_BitLen o41.wi (by rw [j41];exact Nat.le_trans (Nat.le_of_eq hq1) (by decide))) rfl (by kernel_rfl) fun xr46 v44 r46 e45 hw6=>?_))
     obtain rfl:=r46
     refine mv 1 rfl (wl_ar rfl rfl rfl (((blen q:Nat):Int)-(-((k:Nat):Int))) (ar_i64s rfl (by omega) (by omega)) (by decide) (wl_ar rfl rfl rfl ((((blen q:Nat):Int)-(-((k:Nat):Int)))-53) (ar_i64s rfl (by omega) (by omega)) (by decide) (wl_mmA rfl rfl rfl ((d:Int)- -((k:Nat):Int)) hd (by decide) (mv 1 rfl (ne_ (sr (mv 2 rfl (wl_ar rfl rfl rfl ((d:Nat):Int) (ar_i64 (by omega) (by omega) (by omega)) (by decide) (mv 1 rfl (ne_ (cw_seq (cw_seq ?_))))))))))))
     by_cases hd60:60<d
     · 
      refine cw_region (mv 1 rfl (wl_cmp rfl rfl rfl true (cb_gt_t (a:=d) (b:=60) rfl rfl (by omega)) (by decide) (ne_ (cw_true rfl (sr (mv 1 rfl (ne_ (cw_ret (eo_thenR (eo_ret [.float .f64 0] rfl ⟨rfl,trivial⟩ ?_))))))))))
      exact⟨_,rfl,(show Value.float .f64 0=_ by rw [near_drop (X:=X*2^e74) (N:=X) (E:=D*2^k) (d:=d) (p:=p) hD0 (Nat.pos_of_ne_zero hE0) (near_dn (by have:=e74_eq;omega)) (show p=0 by omega) hq.out hq56 (by omega)]),hw6⟩
     · 
      refine cw_region (mv 1 rfl (wl_cmp rfl rfl rfl false (cb_gt_f (a:=d) (b:=60) rfl rfl (by omega)) (by decide) (ne_ (cw_false rfl (cw_skip (eo_then (cw_seq ?_)))))))
      have hcode:=near_code (X:=X*2^e74) (D:=D) (N:=X) (E:=D*2^k) (d:=d) (p:=p) hD0 (Nat.pos_of_ne_zero hE0) (by omega) (near_dn (by have:=e74_eq;omega)) (by rw [hq.out];exact hdb) (by rw [hq.out];exact hpz)
      rw [hq.out,hr.out] at hcode
      replace hcode:=Lib.hid hcode
      have hm53:=near_m53 hdb (by omega)
      have h2d:1≤2^d:=Nat.two_pow_pos d
      have h2d60:2^d≤2^60:=Nat.pow_le_pow_right (by decide) (by omega)
      have hc64:q%2^d≤q:=Nat.mod_le _ _
      have hd163:d-1≤63:=by omega
      have h2d1:2^(d-1)≤2^d:=Nat.pow_le_pow_right (by decide) (by omega)
      refine cw_region (mv 2 rfl (wl_pureE rfl rfl (v:= .int .u64 (IntKind.u64.wrap ((d:Nat):Int))) (v':= .int .u64 ((d:Nat):Int)) (by decide) (by kernel_rfl) (cv_u64 (by first | omega | exact (by omega))) (wl_op rfl rfl rfl (r:= .int .u64 ((q/2^d:Nat):Int)) rfl (fun w=>u64_shr (x:=q) (s:=d) (by omega) _ _ w) (by decide) (mv 2 rfl (wl_pureE rfl rfl (v:= .int .u64 (IntKind.u64.wrap ((d:Nat):Int))) (v':= .int .u64 ((d:Nat):Int)) (by decide) (by kernel_rfl) (cv_u64 (by first | omega | exact (by omega))) (wl_op rfl rfl rfl (r:= .int .u64 ((2^d:Nat):Int)) rfl (fun w=>u64_shl1A (s:=d) (by omega) _ _ w) (by decide) (wl_ar rfl rfl rfl (((2^d)-1:Nat):Int) (au_sub (a:=2^d) (b:=1) rfl rfl (by omega) (by omega)) (by decide) (wl_op rfl rfl rfl (r:= .int .u64 ((q%2^d:Nat):Int)) rfl (fun w=>u64_mask (x:=q) (d:=d) (by omega) (by omega) _ _ w) (by decide) (mv 2 rfl (ne_ (sr (mv 1 rfl (wl_ar rfl rfl rfl ((d-1:Nat):Int) (ai_sub (a:=d) (b:=1) rfl rfl (by omega) (by omega)) (by decide) ?_)))))))))))))
      refine wl_pureE rfl rfl (v:= .int .u64 (IntKind.u64.wrap ((d-1:Nat):Int))) (v':= .int .u64 ((d-1:Nat):Int)) (by decide) (by kernel_rfl) (cv_u64 (by first | omega | exact (by omega))) (wl_op rfl rfl rfl (r:= .int .u64 ((2^(d-1):Nat):Int)) rfl (fun w=>u64_shl1A (s:=d-1) (by omega) _ _ w) (by decide) (mv 1 rfl (ne_ (cw_seq (cw_seq ?_)))))
      by_cases hab:2^(d-1)<q%2^d
      · 
       refine cw_region (mv 2 rfl (wl_cmp rfl rfl rfl true (cb_gt_t (a:=q%2^d) (b:=2^(d-1)) rfl rfl (by omega)) (by decide) (mv 14 rfl (pu (v:= .bool true) rfl (by kernel_rfl) (ne_ (cw_true rfl (cw_region (mv 1 rfl (wl_ar rfl rfl rfl (((q/2^d)+1:Nat):Int) (au_add (a:=q/2^d) (b:=1) rfl rfl (by omega)) (by decide) (mv 1 rfl (ne_ (sr (mv 1 rfl ?_)))))))))))))
       refine wl_ar rfl rfl rfl ((p:Nat):Int) (ar_i64s hp (by omega) (by omega)) (by decide) (wl_pureE rfl rfl (v:= .int .u64 (IntKind.u64.wrap ((p:Nat):Int))) (v':= .int .u64 ((p:Nat):Int)) (by decide) (by kernel_rfl) (cv_u64 (by first | omega | exact (by omega))) (wl_op rfl rfl rfl (r:= .int .u64 ((p*4503599627370496:Nat):Int)) rfl (fun w=>u64_shl52 (x:=p) (by omega) _ _ w) (by decide) (mv 1 rfl (wl_ar rfl rfl rfl (((p*4503599627370496)+((q/2^d)+1):Nat):Int) (au_add (a:=p*4503599627370496) (b:=(q/2^d)+1) rfl rfl (by omega)) (by decide) (mv 1 rfl (ne_ (sr (mv 1 rfl ?_))))))))
       obtain⟨m64,hm64⟩:∃m,min ((p*4503599627370496)+((q/2^d)+1)) 9218868437227405312=m:=⟨_,rfl⟩
       replace hm64:=Lib.hid hm64
       refine wl_miA rfl rfl rfl (((m64:Nat):Int)) ((min_castA ((p*4503599627370496)+((q/2^d)+1)) 9218868437227405312).trans (by rw [hm64.out])) (by decide) (pu (v:= .float .f64 m64) rfl (by kernel_rfl) (mv 1 rfl (ne_ (cw_ret (eo_ret [.float .f64 m64] rfl ⟨rfl,trivial⟩ ?_)))))
       replace hcode:=hcode.out
       rw [if_pos (Or.inl hab)] at hcode
       exact⟨_,rfl,(show Value.float .f64 m64=_ by unfold nearB;rw [hcode,hm64.out]),hw6⟩
      · 
       by_cases heq:q%2^d=2^(d-1)
       · 
        by_cases hr0:r≠0
        · 
         have hln:n42≠0:=by rw [j42];exact fun e=>hr0 (len_wd_zero.1 e)
         refine cw_region (mv 2 rfl (wl_cmp rfl rfl rfl false (cb_gt_f (a:=q%2^d) (b:=2^(d-1)) rfl rfl (by omega)) (by decide) (mv 3 rfl (wl_cmp rfl rfl rfl true (cb_eq_t (a:=q%2^d) (b:=2^(d-1)) rfl rfl (by omega)) (by decide) (mv 2 rfl (pu (v:= .int .i64 ((n42:Nat):Int)) rfl (by kernel_rfl) (wl_cmp rfl rfl rfl true (cb_gt_t (a:=n42) (b:=0) rfl rfl (by omega)) (by decide) (mv 4 rfl (pu (v:= .bool true) rfl (by kernel_rfl) (pu (v:= .bool true) rfl (by kernel_rfl) (pu (v:= .bool true) rfl (by kernel_rfl) (ne_ (cw_true rfl ?_)))))))))))))
         refine cw_region (mv 1 rfl (wl_ar rfl rfl rfl (((q/2^d)+1:Nat):Int) (au_add (a:=q/2^d) (b:=1) rfl rfl (by omega)) (by decide) (mv 1 rfl (ne_ (sr (mv 1 rfl (wl_ar rfl rfl rfl ((p:Nat):Int) (ar_i64s hp (by omega) (by omega)) (by decide) (wl_pureE rfl rfl (v:= .int .u64 (IntKind.u64.wrap ((p:Nat):Int))) (v':= .int .u64 ((p:Nat):Int)) (by decide) (by kernel_rfl) (cv_u64 (by first | omega | exact (by omega))) (wl_op rfl rfl rfl (r:= .int .u64 ((p*4503599627370496:Nat):Int)) rfl (fun w=>u64_shl52 (x:=p) (by omega) _ _ w) (by decide) (mv 1 rfl (wl_ar rfl rfl rfl (((p*4503599627370496)+((q/2^d)+1):Nat):Int) (au_add (a:=p*4503599627370496) (b:=(q/2^d)+1) rfl rfl (by omega)) (by decide) (mv 1 rfl (wl_nil ?_)))))))))))))
         refine eo_then (sr (mv 1 rfl ?_))
         obtain⟨m64,hm64⟩:∃m,min ((p*4503599627370496)+((q/2^d)+1)) 9218868437227405312=m:=⟨_,rfl⟩
         replace hm64:=Lib.hid hm64
         refine wl_miA rfl rfl rfl (((m64:Nat):Int)) ((min_castA ((p*4503599627370496)+((q/2^d)+1)) 9218868437227405312).trans (by rw [hm64.out])) (by decide) (pu (v:= .float .f64 m64) rfl (by kernel_rfl) (mv 1 rfl (ne_ (cw_ret (eo_ret [.float .f64 m64] rfl ⟨rfl,trivial⟩ ?_)))))
         replace hcode:=hcode.out
         rw [if_pos (Or.inr ⟨heq,Or.inl hr0⟩)] at hcode
         exact⟨_,rfl,(show Value.float .f64 m64=_ by unfold nearB;rw [hcode,hm64.out]),hw6⟩
        · 
         have hln:n42=0:=by rw [j42];exact len_wd_zero.2 (by omega)
         by_cases hod:q/2^d%2=1
         · 
          refine cw_region (mv 2 rfl (wl_cmp rfl rfl rfl false (cb_gt_f (a:=q%2^d) (b:=2^(d-1)) rfl rfl (by omega)) (by decide) (mv 3 rfl (wl_cmp rfl rfl rfl true (cb_eq_t (a:=q%2^d) (b:=2^(d-1)) rfl rfl (by omega)) (by decide) (mv 2 rfl (pu (v:= .int .i64 ((n42:Nat):Int)) rfl (by kernel_rfl) (wl_cmp rfl rfl rfl false (cb_gt_f (a:=n42) (b:=0) rfl rfl (by omega)) (by decide) (mv 2 rfl (wl_op rfl rfl rfl (r:= .int .u64 (((q/2^d)%2:Nat):Int)) rfl (fun w=>u64_and1 (x:=q/2^d) (by first | omega | exact (by omega)) _ _ w) (by decide) (wl_cmp rfl rfl rfl true (cb_eq_t (a:=(q/2^d)%2) (b:=1) rfl rfl (by omega)) (by decide) (pu (v:= .bool true) rfl (by kernel_rfl) (pu (v:= .bool true) rfl (by kernel_rfl) (pu (v:= .bool true) rfl (by kernel_rfl) ?_)))))))))))))
          refine ne_ (cw_true rfl (cw_region (mv 1 rfl (wl_ar rfl rfl rfl (((q/2^d)+1:Nat):Int) (au_add (a:=q/2^d) (b:=1) rfl rfl (by omega)) (by decide) (mv 1 rfl (ne_ (sr (mv 1 rfl (wl_ar rfl rfl rfl ((p:Nat):Int) (ar_i64s hp (by omega) (by omega)) (by decide) (wl_pureE rfl rfl (v:= .int .u64 (IntKind.u64.wrap ((p:Nat):Int))) (v':= .int .u64 ((p:Nat):Int)) (by decide) (by kernel_rfl) (cv_u64 (by first | omega | exact (by omega))) (wl_op rfl rfl rfl (r:= .int .u64 ((p*4503599627370496:Nat):Int)) rfl (fun w=>u64_shl52 (x:=p) (by omega) _ _ w) (by decide) (mv 1 rfl (wl_ar rfl rfl rfl (((p*4503599627370496)+((q/2^d)+1):Nat):Int) (au_add (a:=p*4503599627370496) (b:=(q/2^d)+1) rfl rfl (by omega)) (by decide) ?_)))))))))))))
          refine mv 1 rfl (ne_ (sr (mv 1 rfl ?_)))
          obtain⟨m64,hm64⟩:∃m,min ((p*4503599627370496)+((q/2^d)+1)) 9218868437227405312=m:=⟨_,rfl⟩
          replace hm64:=Lib.hid hm64
          refine wl_miA rfl rfl rfl (((m64:Nat):Int)) ((min_castA ((p*4503599627370496)+((q/2^d)+1)) 9218868437227405312).trans (by rw [hm64.out])) (by decide) (pu (v:= .float .f64 m64) rfl (by kernel_rfl) (mv 1 rfl (ne_ (cw_ret (eo_ret [.float .f64 m64] rfl ⟨rfl,trivial⟩ ?_)))))
          replace hcode:=hcode.out
          rw [if_pos (Or.inr ⟨heq,Or.inr hod⟩)] at hcode
          exact⟨_,rfl,(show Value.float .f64 m64=_ by unfold nearB;rw [hcode,hm64.out]),hw6⟩
         · 
          refine cw_region (mv 2 rfl (wl_cmp rfl rfl rfl false (cb_gt_f (a:=q%2^d) (b:=2^(d-1)) rfl rfl (by omega)) (by decide) (mv 3 rfl (wl_cmp rfl rfl rfl true (cb_eq_t (a:=q%2^d) (b:=2^(d-1)) rfl rfl (by omega)) (by decide) (mv 2 rfl (pu (v:= .int .i64 ((n42:Nat):Int)) rfl (by kernel_rfl) (wl_cmp rfl rfl rfl false (cb_gt_f (a:=n42) (b:=0) rfl rfl (by omega)) (by decide) (mv 2 rfl (wl_op rfl rfl rfl (r:= .int .u64 (((q/2^d)%2:Nat):Int)) rfl (fun w=>u64_and1 (x:=q/2^d) (by first | omega | exact (by omega)) _ _ w) (by decide) (wl_cmp rfl rfl rfl false (cb_eq_f (a:=(q/2^d)%2) (b:=1) rfl rfl (by omega)) (by decide) (pu (v:= .bool false) rfl (by kernel_rfl) (pu (v:= .bool false) rfl (by kernel_rfl) (pu (v:= .bool false) rfl (by kernel_rfl) ?_)))))))))))))
          refine ne_ (cw_false rfl (cw_skip (eo_then (sr (mv 1 rfl (wl_ar rfl rfl rfl ((p:Nat):Int) (ar_i64s hp (by omega) (by omega)) (by decide) (wl_pureE rfl rfl (v:= .int .u64 (IntKind.u64.wrap ((p:Nat):Int))) (v':= .int .u64 ((p:Nat):Int)) (by decide) (by kernel_rfl) (cv_u64 (by first | omega | exact (by omega))) (wl_op rfl rfl rfl (r:= .int .u64 ((p*4503599627370496:Nat):Int)) rfl (fun w=>u64_shl52 (x:=p) (by omega) _ _ w) (by decide) (mv 1 rfl (wl_ar rfl rfl rfl (((p*4503599627370496)+(q/2^d):Nat):Int) (au_add (a:=p*4503599627370496) (b:=q/2^d) rfl rfl (by omega)) (by decide) (mv 1 rfl (ne_ (cw_seq ?_)))))))))))))
          refine cw_region (mv 1 rfl ?_)
          obtain⟨m64,hm64⟩:∃m,min ((p*4503599627370496)+(q/2^d)) 9218868437227405312=m:=⟨_,rfl⟩
          replace hm64:=Lib.hid hm64
          refine wl_miA rfl rfl rfl (((m64:Nat):Int)) ((min_castA ((p*4503599627370496)+(q/2^d)) 9218868437227405312).trans (by rw [hm64.out])) (by decide) (pu (v:= .float .f64 m64) rfl (by kernel_rfl) (mv 1 rfl (ne_ (cw_ret (eo_ret [.float .f64 m64] rfl ⟨rfl,trivial⟩ ?_)))))
          replace hcode:=hcode.out
          rw [if_neg (by omega)] at hcode
          exact⟨_,rfl,(show Value.float .f64 m64=_ by unfold nearB;rw [hcode,hm64.out]),hw6⟩
       · 
        refine cw_region (mv 2 rfl (wl_cmp rfl rfl rfl false (cb_gt_f (a:=q%2^d) (b:=2^(d-1)) rfl rfl (by omega)) (by decide) (mv 3 rfl (wl_cmp rfl rfl rfl false (cb_eq_f (a:=q%2^d) (b:=2^(d-1)) rfl rfl (by omega)) (by decide) (mv 9 rfl (pu (v:= .bool false) rfl (by kernel_rfl) (pu (v:= .bool false) rfl (by kernel_rfl) (ne_ (cw_false rfl (cw_skip (eo_then (sr (mv 1 rfl ?_)))))))))))))
        refine wl_ar rfl rfl rfl ((p:Nat):Int) (ar_i64s hp (by omega) (by omega)) (by decide) (wl_pureE rfl rfl (v:= .int .u64 (IntKind.u64.wrap ((p:Nat):Int))) (v':= .int .u64 ((p:Nat):Int)) (by decide) (by kernel_rfl) (cv_u64 (by first | omega | exact (by omega))) (wl_op rfl rfl rfl (r:= .int .u64 ((p*4503599627370496:Nat):Int)) rfl (fun w=>u64_shl52 (x:=p) (by omega) _ _ w) (by decide) (mv 1 rfl (wl_ar rfl rfl rfl (((p*4503599627370496)+(q/2^d):Nat):Int) (au_add (a:=p*4503599627370496) (b:=q/2^d) rfl rfl (by omega)) (by decide) (mv 1 rfl (ne_ (sr (mv 1 rfl ?_))))))))
        obtain⟨m64,hm64⟩:∃m,min ((p*4503599627370496)+(q/2^d)) 9218868437227405312=m:=⟨_,rfl⟩
        replace hm64:=Lib.hid hm64
        refine wl_miA rfl rfl rfl (((m64:Nat):Int)) ((min_castA ((p*4503599627370496)+(q/2^d)) 9218868437227405312).trans (by rw [hm64.out])) (by decide) (pu (v:= .float .f64 m64) rfl (by kernel_rfl) (mv 1 rfl (ne_ (cw_ret (eo_ret [.float .f64 m64] rfl ⟨rfl,trivial⟩ ?_)))))
        replace hcode:=hcode.out
        rw [if_neg (by omega)] at hcode
        exact⟨_,rfl,(show Value.float .f64 m64=_ by unfold nearB;rw [hcode,hm64.out]),hw6⟩
def sgnb (b:Nat):Bool:=decide (b/9223372036854775808=1)
def fld (b:Nat):Nat:=b/4503599627370496%2048
def pm (b:Nat):Nat:=if fld b=0 then b%4503599627370496 else b%4503599627370496+4503599627370496
def pe (b:Nat):Nat:=fld b-1
theorem fld_le (b:Nat):fld b≤2047:=by unfold fld;omega
theorem fin_fld {b:Nat}:fin b↔fld b≠2047:=by
 unfold fin mg fld;omega
theorem pm_lt (b:Nat):pm b<9007199254740992:=by unfold pm;split <;> omega
theorem pe_le {b:Nat}(h:fin b):pe b≤2045:=by have:=fin_fld.1 h;have:=fld_le b;unfold pe;omega
theorem rv_pm (b:Nat):rv (mg b)=pm b*2^pe b:=by
 unfold pm pe
 have e1:mg b/4503599627370496=fld b:=by unfold mg fld;omega
 have e2:mg b%4503599627370496=b%4503599627370496:=by unfold mg;omega
 by_cases h:fld b=0
 ·rw [if_pos h,h]
  have h1:mg b<4503599627370496:=by omega
  rw [rv_low h1,Nat.pow_zero,Nat.mul_one,←e2,Nat.mod_eq_of_lt h1]
 ·rw [if_neg h]
  unfold rv
  rw [if_neg (by omega),e1,e2,Nat.add_comm]
def fv (b:Nat):Int:=sg (sgnb b) (rv (mg b))
theorem read_parts {b:Nat}(hb:b<18446744073709551616) (h:fin b):double.read b= .number (sgnb b) (pm b) ((pe b:Int)+ -1074):=by
 have hs:(b/9223372036854775808%2==1)=sgnb b:=by
  unfold sgnb
  have:b/9223372036854775808%2=b/9223372036854775808:=by omega
  rw [this];rfl
 have h0:=h
 unfold fin mg at h
 unfold Format.read
 simp only [dbl_sw,dbl_bin,dbl_inf,dbl_lp,hs]
 have e1:b%9223372036854775808/4503599627370496=fld b:=by unfold fld;omega
 unfold pm pe
 by_cases h1:b%9223372036854775808<4503599627370496
 ·have hf:fld b=0:=by omega
  rw [if_pos h1,if_pos hf,hf]
  have:b%9223372036854775808=b%4503599627370496:=by omega
  rw [this];rfl
 ·have hf:fld b≠0:=by omega
  rw [if_neg h1,if_pos h,if_neg hf,e1]
  have:b%9223372036854775808%4503599627370496=b%4503599627370496:=by omega
  rw [this,Nat.add_comm,Int.add_comm]
theorem sg_mulN (s:Bool) (m k:Nat):sg s (m*k)=sg s m*(k:Int):=by
 cases s
 ·rw [sg_false,sg_false,Int.natCast_mul]
 ·rw [sg_true,sg_true,Int.natCast_mul,Int.neg_mul]
theorem signed_sg (s:Bool) (m k:Nat):Ieee.signed s m k=sg s (m*2^k):=by
 unfold Ieee.signed
 rw [Nat.shiftLeft_eq]
 cases s
 ·rw [sg_false];rfl
 ·rw [sg_true];rfl
theorem compare_scale {a b:Int}{k:Nat}(hk:0<k):compare (a*(k:Int)) (b*(k:Int))=compare a b:=by
 have hp:(0:Int)<(k:Int):=by omega
 rcases Int.lt_trichotomy a b with h | h | h
 ·rw [Int.compare_eq_lt.2 h,Int.compare_eq_lt.2 (Int.mul_lt_mul_of_pos_right h hp)]
 ·subst h;rw [Int.compare_eq_eq.2 rfl,Int.compare_eq_eq.2 rfl]
 ·rw [Int.compare_eq_gt.2 h,Int.compare_eq_gt.2 (Int.mul_lt_mul_of_pos_right h hp)]
theorem order_fin {x y:Nat}(hx:x<18446744073709551616) (hy:y<18446744073709551616) (h:fin x) (h':fin y):double.order x y=some (compare (fv x) (fv y)):=by
 unfold Format.order
 rw [read_parts hx h,read_parts hy h']
 simp only [Datum.order,signed_sg]
 congr 1
 unfold fv
 rw [rv_pm,rv_pm]
 obtain⟨p,hp⟩:∃p,min (pe x) (pe y)=p:=⟨_,rfl⟩
 have e1:(((pe x:Int)+ -1074)-min ((pe x:Int)+ -1074) ((pe y:Int)+ -1074)).toNat=pe x-p:=by omega
 have e2:(((pe y:Int)+ -1074)-min ((pe x:Int)+ -1074) ((pe y:Int)+ -1074)).toNat=pe y-p:=by omega
 rw [e1,e2]
 have e3:∀q,p≤q→∀s m,sg s (m*2^q)=sg s (m*2^(q-p))*((2^p:Nat):Int):=by
  intro q hq s m
  rw [←sg_mulN,Nat.mul_assoc,←Nat.pow_add,show q-p+p=q by omega]
 rw [e3 (pe x) (by omega),e3 (pe y) (by omega),compare_scale (Nat.two_pow_pos p)]
def whV (b:Nat):Int:=sg (sgnb b) (rv (mg b)/2^e74)
theorem sg_z0 (s:Bool):sg s 0=0:=by cases s <;> rfl
theorem u64_field {x:Nat}(hx:x≤18446744073709551615) (P:Program) (t:TypeId) (w:World):(binOp .and t (.int .u64 (x:Int)) (.int .u64 2047)).run P w= .ok (.int .u64 ((x%2048:Nat):Int)) w:=u64_mask (x:=x) (d:=11) hx (by decide) P t w
theorem u64_frac {x:Nat}(hx:x≤18446744073709551615) (P:Program) (t:TypeId) (w:World):(binOp .and t (.int .u64 (x:Int)) (.int .u64 4503599627370495)).run P w= .ok (.int .u64 ((x%4503599627370496:Nat):Int)) w:=u64_mask (x:=x) (d:=52) hx (by decide) P t w
theorem u64_or52 {x:Nat}(hx:x<4503599627370496) (P:Program) (t:TypeId) (w:World):(binOp .or t (.int .u64 (x:Int)) (.int .u64 4503599627370496)).run P w= .ok (.int .u64 ((x+4503599627370496:Nat):Int)) w:=by
 have e:=u64_or (x:=x) (y:=4503599627370496) (by omega) (by decide) P t w
 have e2:x||| 4503599627370496=x+4503599627370496:=by
  have h:=or_join (x:=1) (y:=x) (k:=52) hx
  rw [Nat.or_comm,Nat.one_mul] at h
  rw [Nat.add_comm];exact h
 rw [e2] at e;exact e
theorem u64_shr52 {x:Nat}(P:Program) (t:TypeId) (w:World):(binOp .shr t (.int .u64 (x:Int)) (.int .u64 52)).run P w= .ok (.int .u64 ((x/4503599627370496:Nat):Int)) w:=u64_shr (x:=x) (s:=52) (by decide) P t w
theorem u64_shr63 {x:Nat}(P:Program) (t:TypeId) (w:World):(binOp .shr t (.int .u64 (x:Int)) (.int .u64 63)).run P w= .ok (.int .u64 ((x/9223372036854775808:Nat):Int)) w:=u64_shr (x:=x) (s:=63) (by decide) P t w
theorem cb_sgn (b:Nat):cmpB .eql ((b/9223372036854775808:Nat):Int) 1=some (sgnb b):=by
 unfold sgnb
 by_cases h:b/9223372036854775808=1
 ·rw [h,decide_eq_true rfl];rfl
 ·rw [decide_eq_false h];exact eq_f (by omega)
theorem Zr_sg {w:World}{b m n c:Nat}{A:Option Addr}(s:Bool) (h:m≠0) (hn:n=(wd m).length) (ho:Own w b 24 1 A n c ((wd m).map W64)):Zr w b s A n c (sg s m):=by
 cases s
 ·rw [sg_false];exact Zr_nat hn ho
 ·rw [sg_true];exact Zr_neg h hn ho
theorem ln_sg {s:Bool}{m N:Nat}(h:(wd m).length≤N):ln (sg s m)≤N:=by
 cases s
 ·rw [sg_false,ln_nat];exact h
 ·rw [sg_true,ln_neg,ln_nat];exact h
theorem neg_fin {f:Nat}(hb:f<18446744073709551616) (h:fin f):fin (f^^^9223372036854775808)∧f^^^9223372036854775808<18446744073709551616∧fv (f^^^9223372036854775808)= -fv f:=by
 unfold fin at h
 by_cases h1:f<9223372036854775808
 ·rw [xor_sign h1]
  have e:mg (f+9223372036854775808)=mg f:=by unfold mg;omega
  have s1:sgnb f=false:=by unfold sgnb;exact decide_eq_false (by omega)
  have s2:sgnb (f+9223372036854775808)=true:=by unfold sgnb;exact decide_eq_true (by omega)
  refine⟨by unfold fin;rw [e];exact h,by omega,?_⟩
  unfold fv
  rw [e,s1,s2,sg_true,sg_false]
 ·obtain⟨g,rfl⟩:∃g,f=g+9223372036854775808:=⟨f-9223372036854775808,by omega⟩
  have hg:g<9223372036854775808:=by omega
  have e0:(g+9223372036854775808)^^^9223372036854775808=g:=by
   rw [←xor_sign hg,Nat.xor_assoc,Nat.xor_self,Nat.xor_zero]
  rw [e0]
  have e:mg (g+9223372036854775808)=mg g:=by unfold mg;omega
  have s1:sgnb g=false:=by unfold sgnb;exact decide_eq_false (by omega)
  have s2:sgnb (g+9223372036854775808)=true:=by unfold sgnb;exact decide_eq_true (by omega)
  refine⟨by unfold fin;rw [←e];exact h,by omega,?_⟩
  unfold fv
  rw [e,s1,s2,sg_true,sg_false,Int.neg_neg]
end Go.Proofs.Ytgilhcdglaneiaa

namespace Go.Proofs.Ytgilhcdglaneiaa
open Go.RowKit
set_option maxHeartbeats 4000000 in
theorem g_parts {w:World}{f:Nat}(hb:f<18446744073709551616) (hf:fin f):
    Calls Try.prog 42 #[.float .f64 f] w (Gv w (Is (.tuple #[.bool (sgnb f),.int .u64 ((pm f:Nat):Int),.int .i64 ((pe f:Int)+ -1074),.bool true]))):=by
 have hfd:=fin_fld.1 hf
 refine sx_enter Try.func42 rfl (n:=30) rfl (bq rfl) (args:= [.float .f64 f]) (cw_keep [(0,.float .f64 f)] ⟨rfl,trivial⟩ (sr (mv 4 rfl (ne_ (sr (mv 1 rfl (pu (v:= .int .u64 ((f:Nat):Int)) rfl (by kernel_rfl) (mv 1 rfl (ne_ (sr (mv 1 rfl (wl_op rfl rfl rfl (r:= .int .u64 ((f/4503599627370496:Nat):Int)) rfl (fun w=>u64_shr52 (x:=f) _ _ w) (by decide) (wl_op rfl rfl rfl (r:= .int .u64 (((f/4503599627370496)%2048:Nat):Int)) rfl (fun w=>u64_field (x:=f/4503599627370496) (by omega) _ _ w) (by decide) ?_)))))))))))))
 refine wl_pureE rfl rfl (v:= .int .i64 (IntKind.i64.wrap (((f/4503599627370496)%2048:Nat):Int))) (v':= .int .i64 (((f/4503599627370496)%2048:Nat):Int)) (by decide) (by kernel_rfl) (cv_i64 (by first | omega | exact (by omega))) (mv 1 rfl (ne_ (sr (mv 1 rfl (wl_op rfl rfl rfl (r:= .int .u64 ((f%4503599627370496:Nat):Int)) rfl (fun w=>u64_frac (x:=f) (by omega) _ _ w) (by decide) (mv 1 rfl (ne_ (cw_seq (cw_seq ?_)))))))))
 have hfl:f/4503599627370496%2048=fld f:=rfl
 have hfle:=fld_le f
 refine cw_region (mv 1 rfl (wl_cmp rfl rfl rfl false (cb_eq_f (a:=(f/4503599627370496)%2048) (b:=2047) rfl rfl (by omega)) (by decide) (ne_ (cw_false rfl (cw_skip (eo_then (cw_seq (cw_seq ?_))))))))
 by_cases hf0:(f/4503599627370496)%2048>0
 · 
  refine cw_region (mv 1 rfl (wl_cmp rfl rfl rfl true (cb_gt_t (a:=(f/4503599627370496)%2048) (b:=0) rfl rfl (by omega)) (by decide) (ne_ (cw_true rfl (sr (mv 1 rfl (wl_op rfl rfl rfl (r:= .int .u64 (((f%4503599627370496)+4503599627370496:Nat):Int)) rfl (fun w=>u64_or52 (x:=f%4503599627370496) (by omega) _ _ w) (by decide) (mv 1 rfl (ne_ (cw_region (mv 1 rfl (wl_ar rfl rfl rfl ((((f/4503599627370496)%2048)-1:Nat):Int) (ai_sub (a:=(f/4503599627370496)%2048) (b:=1) rfl rfl (by omega) (by omega)) (by decide) (mv 1 rfl ?_)))))))))))))
  refine ne_ (sr (mv 1 rfl (wl_op rfl rfl rfl (r:= .int .u64 ((f/9223372036854775808:Nat):Int)) rfl (fun w=>u64_shr63 (x:=f) _ _ w) (by decide) (wl_cmp rfl rfl rfl (sgnb f) (cb_sgn f) (by decide) (mv 2 rfl (wl_ar rfl rfl rfl (((((f/4503599627370496)%2048)-1:Nat):Int)+ -1074) (ar_i64 rfl (by omega) (by omega)) (by decide) (mv 4 rfl (ne_ (cw_ret (eo_ret [.bool (sgnb f),.int .u64 (((f%4503599627370496)+4503599627370496:Nat):Int),.int .i64 (((((f/4503599627370496)%2048)-1:Nat):Int)+ -1074),.bool true] rfl ⟨rfl,rfl,rfl,rfl,trivial⟩ ?_))))))))))
  have em:pm f=(f%4503599627370496)+4503599627370496:=by unfold pm;rw [if_neg (by omega)]
  have ee:((pe f:Nat):Int)=((((f/4503599627370496)%2048)-1:Nat):Int):=by unfold pe;omega
  rw [em,ee]
  exact⟨_,rfl,rfl,(Ext.refl w)⟩
 · 
  refine cw_region (mv 1 rfl (wl_cmp rfl rfl rfl false (cb_gt_f (a:=(f/4503599627370496)%2048) (b:=0) rfl rfl (by omega)) (by decide) (ne_ (cw_false rfl (cw_skip (eo_then (sr (mv 1 rfl (wl_op rfl rfl rfl (r:= .int .u64 ((f/9223372036854775808:Nat):Int)) rfl (fun w=>u64_shr63 (x:=f) _ _ w) (by decide) (wl_cmp rfl rfl rfl (sgnb f) (cb_sgn f) (by decide) (mv 2 rfl (wl_ar rfl rfl rfl ((((f/4503599627370496)%2048:Nat):Int)+ -1074) (ar_i64 rfl (by omega) (by omega)) (by decide) (mv 1 rfl ?_)))))))))))))
  refine mv 3 rfl (ne_ (cw_ret (eo_ret [.bool (sgnb f),.int .u64 ((f%4503599627370496:Nat):Int),.int .i64 ((((f/4503599627370496)%2048:Nat):Int)+ -1074),.bool true] rfl ⟨rfl,rfl,rfl,rfl,trivial⟩ ?_)))
  have em:pm f=f%4503599627370496:=by unfold pm;rw [if_pos (by omega)]
  have ee:((pe f:Nat):Int)=(((f/4503599627370496)%2048:Nat):Int):=by unfold pe;omega
  rw [em,ee]
  exact⟨_,rfl,rfl,(Ext.refl w)⟩
set_option maxHeartbeats 4000000 in
theorem g_parts_bad {w:World}{f:Nat}(hb:f<18446744073709551616) (hf:¬fin f):
    Calls Try.prog 42 #[.float .f64 f] w (Gv w (Is (.tuple #[.bool false,.int .u64 0,.int .i64 0,.bool false]))):=by
 have hfd:=Classical.not_not.1 (fun h=>hf (fin_fld.2 h))
 refine sx_enter Try.func42 rfl (n:=30) rfl (bq rfl) (args:= [.float .f64 f]) (cw_keep [(0,.float .f64 f)] ⟨rfl,trivial⟩ (sr (mv 4 rfl (ne_ (sr (mv 1 rfl (pu (v:= .int .u64 ((f:Nat):Int)) rfl (by kernel_rfl) (mv 1 rfl (ne_ (sr (mv 1 rfl (wl_op rfl rfl rfl (r:= .int .u64 ((f/4503599627370496:Nat):Int)) rfl (fun w=>u64_shr52 (x:=f) _ _ w) (by decide) (wl_op rfl rfl rfl (r:= .int .u64 (((f/4503599627370496)%2048:Nat):Int)) rfl (fun w=>u64_field (x:=f/4503599627370496) (by omega) _ _ w) (by decide) ?_)))))))))))))
 refine wl_pureE rfl rfl (v:= .int .i64 (IntKind.i64.wrap (((f/4503599627370496)%2048:Nat):Int))) (v':= .int .i64 (((f/4503599627370496)%2048:Nat):Int)) (by decide) (by kernel_rfl) (cv_i64 (by first | omega | exact (by omega))) (mv 1 rfl (ne_ (sr (mv 1 rfl (wl_op rfl rfl rfl (r:= .int .u64 ((f%4503599627370496:Nat):Int)) rfl (fun w=>u64_frac (x:=f) (by omega) _ _ w) (by decide) (mv 1 rfl (ne_ (cw_seq (cw_seq ?_)))))))))
 have hfl:f/4503599627370496%2048=fld f:=rfl
 have hfle:=fld_le f
 refine cw_region (mv 1 rfl (wl_cmp rfl rfl rfl true (cb_eq_t (a:=(f/4503599627370496)%2048) (b:=2047) rfl rfl (by omega)) (by decide) (ne_ (cw_true rfl (sr (mv 4 rfl (ne_ (cw_ret (eo_thenR (eo_ret [F0,.int .u64 0,I0,F0] rfl ⟨rfl,rfl,rfl,rfl,trivial⟩ ?_))))))))))
 exact⟨_,rfl,rfl,(Ext.refl w)⟩
theorem natAbs_sg (s:Bool) (m:Nat):Int.natAbs (sg s m)=m:=by
 cases s
 ·rw [sg_false];rfl
 ·rw [sg_true,Int.natAbs_neg];rfl
end Go.Proofs.Ytgilhcdglaneiaa

namespace Go.Proofs.Ytgilhcdglaneiaa
open Go.RowKit
open Ieee
abbrev F64 (b:Nat):Value:= .float .f64 b
theorem map_F64_set (xs:List Nat) (i x:Nat):(xs.map F64).set i (.float .f64 x)=(xs.set i x).map F64:=by rw [List.map_set]
theorem replicate_F64 (n:Nat):List.replicate n (Value.float .f64 0)=(List.replicate n 0).map F64:=by rw [List.map_replicate]
structure Rf (w:World) (A:Option Addr) (n cap:Nat) (xs:List Nat):Prop where
 rv:Rv w 1 A n cap (xs.map F64)
 wf:∀x,x∈xs→x<18446744073709551616
theorem Rf.ext {w w':World}{A:Option Addr}{n cap:Nat}{xs:List Nat}(h:Rf w A n cap xs) (e:Ext w w'):Rf w' A n cap xs:=⟨h.rv.ext e,h.wf⟩
theorem Rf.len {w:World}{A:Option Addr}{n cap:Nat}{xs:List Nat}(h:Rf w A n cap xs):xs.length=n:=by simpa using h.rv.len
theorem Rf.at {w:World}{A:Option Addr}{n c:Nat}{xs:List Nat}(h:Rf w A n c xs){i:Nat}(hi:i<n):
  ∃p,A.map (·.add (i*1))=some p∧w.cell? p=some (.float .f64 (xs.getD i 0))∧xs.getD i 0<18446744073709551616:=by
 obtain⟨a,ha,hc⟩:=h.rv.get i (by omega)
 subst ha
 have hl:=h.len
 have e:(xs.map F64).getD i undef= .float .f64 (xs.getD i 0):=by
  simp [List.getD_eq_getElem?_getD,List.getElem?_eq_getElem (show i<xs.length by omega)]
 have hm:xs.getD i 0∈xs:=by
  rw [List.getD_eq_getElem?_getD,List.getElem?_eq_getElem (show i<xs.length by omega)];exact List.getElem_mem _
 exact⟨a.add i,by rw [Nat.mul_one];rfl,by rw [←e];exact hc,h.wf _ hm⟩
theorem Rf.updL {w w':World}{A:Option Addr}{n c:Nat}{xs:List Nat}{g:Nat}(h:Rf w A n c xs) (e:Upd g w w') (hne:0<c→∀a,A=some a→a.block≠g):Rf w' A n c xs:=
 ⟨⟨h.rv.len,h.rv.le,h.rv.max,fun i hi=>by
  obtain⟨a,ha,hc⟩:=h.rv.get i hi
  exact⟨a,ha,e.cell hc (by rw [block_of_add];exact hne (by have:=h.rv.le;omega) a ha)⟩,fun a ha hc=>Nat.lt_of_lt_of_le (h.rv.blk a ha hc) e.size⟩,h.wf⟩
theorem load_flt {P:Program}{w:World}{T T':TypeId}{g i:Nat}{l:List Nat}(hT:∀w,(isAgg T).run P w= .ok false w) (hb:Bk w g T' (l.map F64)) (hi:i<l.length):(loadVar T ⟨g,i,none⟩).run P w= .ok (.float .f64 (l.getD i 0)) w:=by
 refine load_cell hT hb ?_
 simp [List.getD_eq_getElem?_getD,List.getElem?_eq_getElem hi]
theorem Bk.rf0 {w:World}{g N:Nat}{t:TypeId}{l:List Nat}(h:Bk w g t (l.map F64)) (hw:∀x,x∈l→x<18446744073709551616) (hl:l.length=N) (hN:N≤9223372036854775807):Rf w (some ⟨g,0,none⟩) N N l:=
 ⟨(by have h1:=Own.mk_ (n:=N) (cap:=N) (base:=0) (s:=1) (Nat.zero_le _) h (Nat.le_refl _) (by rw [len_maxLen];omega) (by rw [List.length_map,Nat.mul_one];exact hl) (by rw [Nat.mul_one,List.take_of_length_le (by rw [List.length_map];omega)]);exact h1.rv),hw⟩
theorem sz_f64 (w:World):(sizeOf 35).run Try.prog w= .ok 1 w:=by kernel_rfl
theorem ag_f64 (w:World):(isAgg 35).run Try.prog w= .ok false w:=by kernel_rfl
theorem un_f64:Try.prog.underlying 33=some (.slice 35):=Try.underlying33
theorem infoF64:(Try.prog.info? 35).map (fun i=>(i.zero,i.size,i.bytes))=some (some (.float .f64 0),1,8):=by kernel_rfl
def sumF (fs:List Nat):Int:=(fs.map fv).sum
theorem sumF_snoc {fs:List Nat}{i:Nat}(h:i<fs.length):sumF (fs.take (i+1))=sumF (fs.take i)+fv (fs.getD i 0):=by
 unfold sumF
 rw [List.take_add_one,List.map_append,List.sum_append,List.getD_eq_getElem?_getD,List.getElem?_eq_getElem h]
 simp
theorem fv_bd {f:Nat}(h:fin f):(fv f).natAbs≤2^e98:=by
 unfold fv
 rw [natAbs_sg]
 have h1:rv (mg f)≤rv 9218868437227405312:=rv_le (by unfold fin at h;omega)
 rw [rv_inf] at h1
 omega
theorem ln_of_bd {z:Int}{n k:Nat}(h:z.natAbs≤n*2^e98) (hn:n≤2097153):ln z≤34:=by
 show (wd z.natAbs).length≤34
 refine len_wd_le (Nat.lt_of_le_of_lt h ?_)
 rw [WB_pow,←Nat.pow_mul]
 have h0:64*34=78+e98:=by rw [e98_eq]
 rw [h0,Nat.pow_add]
 exact (Nat.mul_lt_mul_right (Nat.two_pow_pos e98)).2 (Nat.lt_of_le_of_lt hn (by decide))
def allF (fs:List Nat):Bool:=fs.all fun f=>decide (fin f)
theorem sumF_bd {fs:List Nat}(hf:∀i,i<fs.length→fin (fs.getD i 0)):∀k,(sumF (fs.take k)).natAbs≤k*2^e98:=by
 intro k
 induction k with
 | zero=>simp [sumF]
 | succ k ih=>
  by_cases hk:k<fs.length
  ·rw [sumF_snoc hk,Nat.add_mul,Nat.one_mul]
   have:=fv_bd (hf k hk)
   omega
  ·rw [List.take_of_length_le (by omega)] at ih⊢
   rw [Nat.add_mul];omega
theorem sumF_bd2 {fs:List Nat}{k:Nat}(hf:∀i,i<k→fin (fs.getD i 0)) (hk:k≤fs.length):(sumF (fs.take k)).natAbs≤k*2^e98:=by
 have:=sumF_bd (fs:=fs.take k) (fun i hi=>by
  rw [List.length_take] at hi
  rw [List.getD_eq_getElem?_getD,List.getElem?_take,if_pos (by omega),←List.getD_eq_getElem?_getD];exact hf i (by omega)) k
 rwa [List.take_take,Nat.min_self] at this
theorem allF_t {fs:List Nat}(h:∀i,i<fs.length→fin (fs.getD i 0)):allF fs=true:=by
 unfold allF
 rw [List.all_eq_true]
 intro x hx
 obtain⟨i,hi,rfl⟩:=List.getElem_of_mem hx
 have:=h i hi
 rw [List.getD_eq_getElem?_getD,List.getElem?_eq_getElem hi] at this
 exact decide_eq_true this
theorem allF_f {fs:List Nat}{i:Nat}(hi:i<fs.length) (h:¬fin (fs.getD i 0)):allF fs=false:=by
 refine Bool.eq_false_iff.2 fun e=>h ?_
 unfold allF at e
 rw [List.all_eq_true] at e
 have hm:fs.getD i 0∈fs:=by rw [List.getD_eq_getElem?_getD,List.getElem?_eq_getElem hi];exact List.getElem_mem _
 exact of_decide_eq_true (e _ hm)
theorem allF_get {fs:List Nat}(h:allF fs=true){i:Nat}(hi:i<fs.length):fin (fs.getD i 0):=by
 by_cases hf:fin (fs.getD i 0)
 ·exact hf
 ·rw [allF_f hi hf] at h;cases h
def totS (S:Int):Nat:=sgB (decide (S<0)) (nearB S.natAbs 1)
def totB (fs:List Nat):Nat:=if allF fs then totS (sumF fs) else 0
def totE (fs:List Nat):Int:=if allF fs then 0 else 3
theorem len_u1074:(wd (1*2^e74)).length≤66:=len_shl (n:=1) (len_wd_le (by decide)) (by rw [e74_eq];decide)
theorem totB_t {fs:List Nat}(h:allF fs=true):totB fs=totS (sumF fs):=if_pos h
theorem totE_t {fs:List Nat}(h:allF fs=true):totE fs=0:=if_pos h
theorem totB_f {fs:List Nat}(h:allF fs=false):totB fs=0:=if_neg (by rw [h];decide)
theorem totE_f {fs:List Nat}(h:allF fs=false):totE fs=3:=if_neg (by rw [h];decide)
theorem u1074_pos:0<1*2^e74:=Nat.mul_pos (by decide) (Nat.two_pow_pos _)
theorem near_1074 (X:Nat):nearB (X*2^e74) (1*2^e74)=nearB X 1:=by
 unfold nearB
 rw [nearR_cross (X:=X*2^e74) (D:=1*2^e74) (Y:=X) (E:=1) (Nat.mul_pos (by decide) (Nat.two_pow_pos _)) (by decide) (by rw [Nat.mul_one,Nat.one_mul])]
def nrB (x:Int):Nat:=sgB (decide (x<0)) (nearB (x.natAbs*2^e74) 1)
theorem nearB_le (X D:Nat):nearB X D≤9218868437227405312:=Nat.min_le_right _ _
theorem cb_scmp_lt (x:Int):cmpB .lss (scmp x 0) 0=some (decide (x<0)):=by
 by_cases h:x<0
 ·rw [decide_eq_true h];exact lt_t (scmp_neg.2 h)
 ·rw [decide_eq_false h];exact lt_f (by have:=scmp_neg (x:=x) (y:=0);omega)
def ZW (b:Nat) (s:Bool) (m:Nat) (v:Value) (w:World):Prop:=∃A n c,v= .agg #[.bool s,.slice A n c]∧n=(wd m).length∧Own w b 24 1 A n c ((wd m).map W64)
theorem sub_nan {b:Nat}(h:¬fin b) (P:Program) (t:TypeId) (w:World):∃r,¬fin r∧(binOp .sub t (.float .f64 b) (.float .f64 b)).run P w= .ok (.float .f64 r) w.drew:=by
 have e:=sub_not h
 refine⟨(Question.nanBits .f64 b b).cut (w.tape w.drawn (.nanBits .f64 b b)),?_,?_⟩
 ·generalize w.tape w.drawn (.nanBits .f64 b b)=t
  have:(Question.nanBits .f64 b b).cut t=t%2*9223372036854775808+9218868437227405312+1+t/2%4503599627370495:=rfl
  rw [this]
  unfold fin mg
  have hc:=Nat.mod_lt (t/2) (show 0<4503599627370495 by decide)
  generalize t/2%4503599627370495=c at*
  rw [Nat.add_assoc,Nat.add_assoc,Nat.add_comm,Nat.add_mul_mod_self_right,Nat.mod_eq_of_lt (by omega)]
  omega
 ·have e2:FloatKind.f64.format.sub b b=none:=e
  simp only [binOp,Op.floatArith,e2,Sem.run_bind,Sem.run_pure,Result.andThen_ok,run_choose_drew]
  rfl
theorem wl_opW {P:Program}{Q:Exit→Act→World→Prop}{n:Nat}{l:Fr}{w w':World}{ops:Array Oper}{rest:List Oper}{d:Nat}{ty:TypeId}{pos:String}{af:Array Edge}{gd:Option (Nat×Bool)}{o:BinOp}{t t':TypeId}{x y:Operand}{u v r:Value}(hw:guardB ops l gd=some true) (hx:evo l x=some u) (hy:evo l y=some v) (ho:notEq o=true) (hb:(binOp o t u v).run P w= .ok r w') (hn:d<n)
  (h:wl P ops Q n rest ((d,r)::l) w'):wl P ops Q n (⟨some d,.binOp o t x y t',ty,pos,af,gd⟩::rest) l w:=
 wl_val hw hn (fun a' ha=>by
  have e:((do eqGuard o t x y (a'.eval x) (a'.eval y);binOp o t (a'.eval x) (a'.eval y)):Sem Value).run P w= .ok r w':=by
   rw [ha.ev hx,ha.ev hy]
   cases o <;> first | (cases ho;done) | (simp only [eqGuard,Sem.run_bind];exact hb) | (simp [eqGuard,Sem.run_bind,hb])
  show ((((do eqGuard o t x y (a'.eval x) (a'.eval y);binOp o t (a'.eval x) (a'.eval y)):Sem Value)>>=fun r=>pure (Next.value r)):Sem Next).run P w=_
  rw [Sem.run_bind,e];rfl) h
theorem flt_eq0 {f:Nat}(h:fin f):(FloatKind.f64.format.order f 0==some .eq)=decide (mg f=0):=by
 show (double.order f 0==some .eq)=_
 rw [order_zero h]
 by_cases h0:mg f=0
 ·rw [if_pos h0,decide_eq_true h0];rfl
 ·rw [if_neg h0,decide_eq_false h0];split <;> rfl
theorem flt_eq0_not {f:Nat}(h:¬fin f):(FloatKind.f64.format.order f 0==some .eq)=false:=order_zero_not h
end Go.Proofs.Ytgilhcdglaneiaa

namespace Go.Proofs.Ytgilhcdglaneiaa
open Go.RowKit
set_option maxHeartbeats 4000000 in
theorem g_Near {w:World}{s:Bool}{A:Option Addr}{n cap:Nat}{x:Int}(hx:Zi w s A n cap x) (la:n≤67108864):
    Calls Try.prog 17 #[.agg #[.bool s,.slice A n cap]] w (Gv w (Is (.float .f64 (nrB x)))):=by
 have Lx:ln x≤67108864:=Nat.le_trans hx.ln la
 refine sx_enter Try.func17 rfl (n:=11) rfl (bq rfl) (args:= [.agg #[.bool s,.slice A n cap]]) (cw_keep [(0,.agg #[.bool s,.slice A n cap])] ⟨rfl,trivial⟩ (sr (bx [.bool s,.slice A n cap] (Ext.refl w) rfl rfl rfl fun g1 v2 hb4 ge5 e3 hw1=>(mv 1 rfl (ne_ (cw_seq ?_))))))
 refine cw_draw mix 8 [] [Is (.agg #[.bool s,.slice A n cap]),Is (.int .i64 (scmp x 0)),Is (.bool (decide (x<0))),Is (.pointer (some ⟨g1,1,none⟩)),Is (.slice A n cap),WR w.heap.size (1),Is (.float .f64 (nearB (Int.natAbs x*2^e74) 1)),Is (.float .f64 (sgB (decide (x<0)) (nearB (Int.natAbs x*2^e74) 1)))] [[],[0],[1],[],[3],[],[4,5],[2,6]] [[],[0],[0,1],[],[3],[],[0,1,3,4,5],[0,1,2,3,4,5,6],[0,1,2,3,4,5,6,7]] rfl
  (obs_cons rfl rfl (hob rfl rfl ?_) (obs_cons rfl rfl (hob rfl rfl ?_) (obs_cons rfl rfl (hob rfl rfl ?_) (obs_cons rfl rfl (hob rfl rfl ?_) (obs_cons rfl rfl (hob rfl rfl ?_) (obs_cons rfl rfl (hob rfl rfl ?_) (obs_cons rfl rfl (hob rfl rfl ?_) (obs_cons rfl rfl (hob rfl rfl ?_) obs_nil)))))))) ?_
 · 
  exact fun _ e8=>deps_nil (lo aggInt (hb4.ext e8) [.bool s,.slice A n cap] rfl rfl rfl (pi_done rfl (Ext.refl _) rfl))
 · 
  intro v9 e10
  have hw2:=hw1.trans e10
  refine dk rfl rfl (deps_nil (cl (vs:= [.agg #[.bool s,.slice A n cap]]) hw2 (g_zint_Sign (hx.ext hw2) (lx_ la rfl)) rfl (by kernel_rfl) fun xr18 v16 r18 e17 hw3=>?_))
  obtain rfl:=r18
  exact pi_done rfl e17 rfl
 · 
  exact fun _ _=>dk rfl rfl (deps_nil (wl_cmp rfl rfl rfl (decide (x<0)) (cb_scmp_lt x) (by decide) (pi_done rfl (Ext.refl _) rfl)))
 · 
  exact fun _ _=>deps_nil (pf g1 1 rfl (by kernel_rfl) (pi_done rfl (Ext.refl _) rfl))
 · 
  exact fun _ e29=>dk rfl rfl (deps_nil (wl_load rfl rfl (load_cell cellWords (hb4.ext e29) rfl) (by decide) (pi_done rfl (Ext.refl _) rfl)))
 · 
  intro v35 e36
  have hw2:=hw1.trans e36
  refine deps_nil (wl_bslice rfl rfl (by decide) (k:=1) (e:=24) [.int .u64 1] (fun _=>by kernel_rfl) fun g37 v38 nb39=>?_)
  have o40:=O1.mk_ (x:=1) (b:=w.heap.size) nb39 hw2.size
  have e41:=nb39.ext
  have hw3:=hw2.trans e41
  have o43:=own1_wd o40 (show 1≤18446744073709551615 by decide) (show 1≠0 by decide)
  have j42:=len1 (show 1≤18446744073709551615 by decide) (show 1≠0 by decide)
  exact pi_done rfl e41 ⟨_,_,_,rfl,j42,o43⟩
 · 
  intro v44 e45
  have hw2:=hw1.trans e45
  refine dk rfl rfl (deps_cons rfl rfl fun x51 y52 h53 e54 f55=>?_)
  obtain⟨A56,n56,c56,rfl,j56,o56⟩:=h53
  have o56:=o56.ext f55
  refine deps_nil (cl (vs:= [.slice A n cap,.slice A56 n56 c56]) hw2 (g_nearest (hx.ext hw2).wi (lx_ la rfl) o56.wi (by rw [j56];exact Nat.le_trans (Nat.le_of_eq (len1 (show 1≤18446744073709551615 by decide) (show 1≠0 by decide)).symm) (by decide)) (by decide)) rfl (by kernel_rfl) fun xr59 v57 r59 e58 hw3=>?_)
  obtain rfl:=r59
  exact pi_done rfl e58 rfl
 · 
  intro v60 e61
  have hw2:=hw1.trans e61
  refine dk rfl rfl (dk rfl rfl (deps_nil (cl (vs:= [.bool (decide (x<0)),.float .f64 (nearB (Int.natAbs x*2^e74) 1)]) hw2 (g_signed (ng:=(decide (x<0))) (nearB_le _ _)) rfl (by kernel_rfl) fun xr74 v72 r74 e73 hw3=>?_)))
  obtain rfl:=r74
  exact pi_done rfl e73 rfl
 · 
  intro v75 e76
  have hw2:=hw1.trans e76
  refine dk rfl rfl (dk rfl rfl (dk rfl rfl (dk rfl rfl (dk rfl rfl (deps_cons rfl rfl fun x102 y103 h104 e105 f106=>?_)))))
  obtain⟨A107,n107,c107,rfl,j107,o107⟩:=h104
  have o107:=o107.ext f106
  refine dk rfl rfl (dk rfl rfl (deps_nil (mv 1 rfl (wl_nil (eo_np (eo_then (cw_ret (eo_ret [.float .f64 (sgB (decide (x<0)) (nearB (Int.natAbs x*2^e74) 1))] rfl ⟨rfl,trivial⟩ ?_))))))))
  exact⟨_,rfl,rfl,hw2⟩
theorem g_shifted_k {w:World}{A:Option Addr}{n c b u j:Nat}(hj:j=1074) (hu:1*2^j=u) (hb:b≤w.heap.size) (hX:Wi w A n c 1) (hXn:n≤67108864):Calls Try.prog 43 #[.slice A n c,.int .i64 1074] w (Gv w (WR b u)):=by
 subst hu
 have h:=g_shifted (k:=j) hb (by omega) hX hXn
 have e:((j:Nat):Int)=1074:=by omega
 rw [e] at h
 exact h
theorem g_shifted_u {w:World}{A:Option Addr}{n c b u:Nat}(hu:1*2^e74=u) (hb:b≤w.heap.size) (hX:Wi w A n c 1) (hXn:n≤67108864):Calls Try.prog 43 #[.slice A n c,.int .i64 1074] w (Gv w (WR b u)):=by
 exact g_shifted_k e74_eq hu hb hX hXn
theorem g_nearest_e {w:World}{A:Option Addr}{n c X:Nat}(hX:Wi w A n c X) (hXn:n≤67108864){B:Option Addr}{n' c' D nb:Nat}(hD:Wi w B n' c' D) (hDn:n'≤67108864) (hD0:0<D) (h:nearB (X*2^e74) D=nb):
  Calls Try.prog 45 #[.slice A n c,.slice B n' c'] w (Gv w (Is (.float .f64 nb))):=by
 subst h
 exact g_nearest hX hXn hD hDn hD0
set_option maxHeartbeats 4000000 in
theorem g_Total {w:World}{A:Option Addr}{n cap:Nat}{fs:List Nat}(hx:Rf w A n cap fs) (hn:n≤2097152):
    Calls Try.prog 11 #[.slice A n cap] w (Gv w (T2 (Is (.float .f64 (totB fs))) (Is (.int .i64 (totE fs))))):=by
 have hlen:=hx.len
 refine sx_enter Try.func11 rfl (n:=44) rfl (bq rfl) (args:= [.slice A n cap]) (cw_keep [(0,.slice A n cap)] ⟨rfl,trivial⟩ (sr (mv 2 rfl (ne_ (sr (wl_alloc rfl (z:= .agg #[F0,S0]) (vs:= [F0,S0]) (fun _=>by kernel_rfl) rfl (by decide) fun g1 v2 nb=>?_))))))
 have ne3:0<cap→∀a,A=some a→a.block≠g1:=fun hc a ha=>by have:=(hx).rv.blk a ha hc;have:=nb.at_;omega
 have hb5:=nb.bk
 have ge6:w.heap.size≤g1:=by rw [←nb.at_];exact (Ext.refl w).size
 have e4:=nb.ext
 clear nb
 have hw1:=(Ext.refl w).trans e4
 refine ne_ (cw_seq (sr (mv 1 rfl (pu (v:= .int .i64 ((n:Nat):Int)) rfl (by kernel_rfl) (mv 1 rfl (ne_ (cw_block ?_)))))))
 refine cw_loop (T:=World×Nat×ZC)
  (fun⟨wr,i,kp⟩=> [(4,.pointer (some ⟨g1,0,none⟩)),(11,.slice A n cap),(12,.int .i64 ((n:Nat):Int)),(13,.int .i64 ((i:Nat):Int))])
  (fun⟨wr,i,kp⟩=>wr)
  (fun⟨wr,i,kp⟩=>(Ext w wr)∧(i≤n)∧(∀j,j<i→fin (fs.getD j 0))∧(Bk wr g1 43 [.bool kp.s,.slice kp.A kp.n kp.c])∧(Zr wr w.heap.size kp.s kp.A kp.n kp.c (sumF (fs.take i)))∧(Rf wr A n cap fs))
  (fun⟨wr,i,kp⟩=>n-i)
  (⟨v2,0,⟨false,none,0,0⟩⟩:World×Nat×ZC) ⟨hw1,(Nat.zero_le _),(fun j hj=>absurd hj (Nat.not_lt_zero _)),hb5,(Zr.zero.cast (by simp [sumF])),(hx.ext e4)⟩ rfl ⟨rfl,rfl,rfl,rfl,trivial⟩ ?_
 rintro⟨wr,i,kp⟩ ⟨hw1,hi,hfin,hB,zp,rl11⟩
 refine cw_re [(4,.pointer (some ⟨g1,0,none⟩)),(11,.slice A n cap),(12,.int .i64 ((n:Nat):Int)),(13,.int .i64 ((i:Nat):Int))] wr rfl ⟨rfl,rfl,rfl,rfl,trivial⟩ (cw_seq ?_)
 by_cases hin:i<n
 · 
  refine cw_region (wl_cmp rfl rfl rfl true (cb_lt_t (a:=i) (b:=n) rfl rfl (by omega)) (by decide) (ne_ (cw_seq (cw_true rfl (cw_skip (eo_then (cw_seq (cw_block (sr ?_)))))))))
  obtain⟨p7,hp7,hc7,hv7⟩:=(rl11).at (i:=i) (by omega)
  refine wl_idx rfl rfl rfl un_f64 sz_f64 i rfl (by omega) p7 hp7 (by decide) (wl_load rfl rfl (load_cell1 ag_f64 hc7) (by decide) (mv 1 rfl (ne_ (cw_seq ?_))))
  have hb:=hv7
  by_cases hfi:fin (fs.getD i 0)
  · 
   have hf:=hfi
   have hpe:=pe_le hf
   have hpl:=pm_lt (fs.getD i 0)
   refine cw_region (mv 1 rfl (cl (vs:= [.float .f64 (fs.getD i 0)]) hw1 (g_parts hb hf) rfl (by kernel_rfl) fun xr10 v8 r10 e9 hw2=>?_))
   obtain rfl:=r10
   refine mv 1 rfl (pu (v:= .bool (sgnb (fs.getD i 0))) rfl (by kernel_rfl) (pu (v:= .int .u64 ((pm (fs.getD i 0):Nat):Int)) rfl (by kernel_rfl) (pu (v:= .int .i64 ((pe (fs.getD i 0):Int)+ -1074)) rfl (by kernel_rfl) (pu (v:= .bool true) rfl (by kernel_rfl) (mv 4 rfl (ne_ (cw_seq (sr (mv 1 rfl (pu (v:= .bool false) rfl (by kernel_rfl) (ne_ (cw_false rfl (cw_skip ?_)))))))))))))
   refine eo_then ?_
   have L14:ln ((sumF (fs.take i))+(sg (sgnb (fs.getD i 0)) ((pm (fs.getD i 0))*2^(pe (fs.getD i 0)))))≤67:=Nat.le_trans (ln_add (ln_of_bd (k:=0) (sumF_bd2 hfin (by omega)) (by omega)) (ln_sg (s:=(sgnb (fs.getD i 0))) (len_shl (n:=1) (len_wd_le (by rw [WB_def,Nat.pow_one];omega)) (by omega)))) (by decide)
   refine cw_draw mix 9 [] [Is (.agg #[.bool kp.s,.slice kp.A kp.n kp.c]),Is (.bool (sgnb (fs.getD i 0))),Is (.int .u64 ((pm (fs.getD i 0):Nat):Int)),fun v' w'=>∃A,v'= .slice A 1 1∧Own w' w.heap.size 24 1 A 1 1 [W64 (pm (fs.getD i 0))],Is (.int .i64 ((pe (fs.getD i 0):Int)+ -1074)),Is (.int .i64 ((pe (fs.getD i 0):Nat):Int)),WR w.heap.size ((pm (fs.getD i 0))*2^(pe (fs.getD i 0))),ZW w.heap.size (sgnb (fs.getD i 0)) ((pm (fs.getD i 0))*2^(pe (fs.getD i 0))),ZR w.heap.size ((sumF (fs.take i))+(sg (sgnb (fs.getD i 0)) ((pm (fs.getD i 0))*2^(pe (fs.getD i 0)))))] [[],[],[],[2],[],[4],[3,5],[1,6],[0,7]] [[],[],[],[2],[],[4],[2,3,4,5],[1,2,3,4,5,6],[0,1,2,3,4,5,6,7],[0,1,2,3,4,5,6,7,8]] rfl
    (obs_cons rfl rfl (hob rfl rfl ?_) (obs_cons rfl rfl (hob rfl rfl ?_) (obs_cons rfl rfl (hob rfl rfl ?_) (obs_cons rfl rfl (hob rfl rfl ?_) (obs_cons rfl rfl (hob rfl rfl ?_) (obs_cons rfl rfl (hob rfl rfl ?_) (obs_cons rfl rfl (hob rfl rfl ?_) (obs_cons rfl rfl (hob rfl rfl ?_) (obs_cons rfl rfl (hob rfl rfl ?_) obs_nil))))))))) ?_
   · 
    exact fun _ e17=>deps_nil (lo aggInt (hB.ext (e9.trans e17)) [.bool kp.s,.slice kp.A kp.n kp.c] rfl rfl rfl (pi_done rfl (Ext.refl _) rfl))
   · 
    exact fun _ _=>deps_nil (mv 1 rfl (pi_done rfl (Ext.refl _) rfl))
   · 
    exact fun _ _=>deps_nil (mv 1 rfl (pi_done rfl (Ext.refl _) rfl))
   · 
    intro v22 e23
    have hw3:=hw2.trans e23
    refine dk rfl rfl (deps_nil (wl_bslice rfl rfl (by decide) (k:=1) (e:=24) [.int .u64 ((pm (fs.getD i 0):Nat):Int)] (fun _=>by kernel_rfl) fun g29 v30 nb31=>?_))
    have o32:=O1.mk_ (x:=pm (fs.getD i 0)) (b:=w.heap.size) nb31 hw3.size
    have e33:=nb31.ext
    have hw4:=hw3.trans e33
    exact pi_done rfl e33 ⟨_,rfl,o32⟩
   · 
    exact fun _ _=>deps_nil (mv 1 rfl (pi_done rfl (Ext.refl _) rfl))
   · 
    exact fun _ _=>dk rfl rfl (deps_nil (wl_ar rfl rfl rfl ((pe (fs.getD i 0):Nat):Int) (ar_i64s (by omega) (by omega) (by omega)) (by decide) (pi_done rfl (Ext.refl _) rfl)))
   · 
    intro v45 e46
    have hw3:=hw2.trans e46
    refine deps_cons rfl rfl fun x47 y48 h49 e50 f51=>?_
    obtain⟨A52,rfl,o52⟩:=h49
    have o52:=o52.ext f51
    refine dk rfl rfl (deps_nil (cl (vs:= [.slice A52 1 1,.int .i64 ((pe (fs.getD i 0):Nat):Int)]) hw3 (g_shifted (b:=w.heap.size) hw3.size (by omega) (own1_wi o52 (show pm (fs.getD i 0)≤18446744073709551615 by omega)) (by decide)) rfl (by kernel_rfl) fun xr60 v58 r60 e59 hw4=>?_))
    obtain⟨A61,n61,c61,rfl,j61,o61⟩:=r60
    exact pi_done rfl e59 ⟨_,_,_,rfl,j61,o61⟩
   · 
    intro v62 e63
    refine dk rfl rfl (deps_cons rfl rfl fun x69 y70 h71 e72 f73=>?_)
    obtain⟨A74,n74,c74,rfl,j74,o74⟩:=h71
    have o74:=o74.ext f73
    refine deps_nil (pu (v:= .agg #[.bool (sgnb (fs.getD i 0)),.slice A74 n74 c74]) rfl (by kernel_rfl) ?_)
    exact pi_done rfl (Ext.refl _) ⟨_,_,_,rfl,j74,o74⟩
   · 
    intro v75 e76
    have hw3:=hw2.trans e76
    refine dk rfl rfl (deps_cons rfl rfl fun x82 y83 h84 e85 f86=>?_)
    obtain⟨A87,n87,c87,rfl,j87,o87⟩:=h84
    have o87:=o87.ext f86
    refine deps_nil ?_
    have L88:ln ((sumF (fs.take i))+(sg (sgnb (fs.getD i 0)) ((pm (fs.getD i 0))*2^(pe (fs.getD i 0)))))≤67:=Nat.le_trans (ln_add (ln_of_bd (k:=0) (sumF_bd2 hfin (by omega)) (by omega)) (ln_sg (s:=(sgnb (fs.getD i 0))) (len_shl (n:=1) (len_wd_le (by rw [WB_def,Nat.pow_one];omega)) (by omega)))) (by decide)
    refine cl (vs:= [.agg #[.bool kp.s,.slice kp.A kp.n kp.c],.agg #[.bool (sgnb (fs.getD i 0)),.slice A87 n87 c87]]) hw3 (g_zint_Add hw3.size (zp.ext (e9.trans e76)).zi (zp.le (Nat.le_trans (ln_of_bd (k:=0) (sumF_bd2 hfin (by omega)) (by omega)) (by decide))) ((o87).wi.zi (sgnb (fs.getD i 0))) (Nat.le_trans (Nat.le_trans (Nat.le_of_eq j87) (len_shl (n:=1) (len_wd_le (by rw [WB_def,Nat.pow_one];omega)) (by omega))) (by decide))) rfl (by kernel_rfl) fun xr91 v89 r91 e90 hw4=>?_
    obtain⟨s92,A92,n92,c92,rfl,z92⟩:=r91
    exact pi_done rfl e90 ⟨_,_,_,_,rfl,z92⟩
   · 
    intro v93 e94
    have hw3:=hw2.trans e94
    refine dk rfl rfl (dk rfl rfl (dk rfl rfl (deps_cons rfl rfl fun x110 y111 h112 e113 f114=>?_)))
    obtain⟨A115,rfl,o115⟩:=h112
    have o115:=o115.ext f114
    refine dk rfl rfl (dk rfl rfl (deps_cons rfl rfl fun x126 y127 h128 e129 f130=>?_))
    obtain⟨A131,n131,c131,rfl,j131,o131⟩:=h128
    have o131:=o131.ext f130
    refine deps_cons rfl rfl fun x132 y133 h134 e135 f136=>?_
    obtain⟨A137,n137,c137,rfl,j137,o137⟩:=h134
    have o137:=o137.ext f136
    refine deps_cons rfl rfl fun x138 y139 h140 e141 f142=>?_
    obtain⟨s143,A143,n143,c143,rfl,z143⟩:=h140
    have z143:=z143.ext f142
    refine deps_nil ?_
    have hb145:=(hB.ext (e9.trans e94))
    refine so aggInt hb145 [.bool s143,.slice A143 n143 c143] hw3 ge6 rfl rfl rfl rfl fun v144 hb146 u147 hw4=>(wl_nil (eo_np (eo_block_normal (eo_then (cw_region (wl_ar rfl rfl rfl ((i+1:Nat):Int) (ai_add (a:=i) (b:=1) rfl rfl (by omega)) (by decide) (mv 1 rfl (wl_nil (eo_round (⟨v144,i+1,⟨s143,A143,n143,c143⟩⟩:World×Nat×ZC) ⟨hw4,(by omega),(fun j hj=>by by_cases e:j=i;(· subst e;exact hfi);(· exact hfin j (by omega))),hb146,(((z143.updT hb145 u147)).cast (by rw [sumF_snoc (by omega)];unfold fv;rw [rv_pm])),(Rf.updL (rl11.ext (e9.trans e94)) u147 ne3)⟩ (show n-(i+1)<n-i by omega) rfl ⟨rfl,rfl,rfl,rfl,trivial⟩)))))))))
  · 
   have hf:=hfi
   refine cw_region (mv 1 rfl (cl (vs:= [.float .f64 (fs.getD i 0)]) hw1 (g_parts_bad hb hf) rfl (by kernel_rfl) fun xr151 v149 r151 e150 hw2=>?_))
   obtain rfl:=r151
   refine mv 1 rfl (pu (v:= .bool false) rfl (by kernel_rfl) (pu (v:= .int .u64 0) rfl (by kernel_rfl) (pu (v:= .int .i64 0) rfl (by kernel_rfl) (pu (v:= .bool false) rfl (by kernel_rfl) (mv 4 rfl (ne_ (cw_seq (sr (mv 1 rfl (pu (v:= .bool true) rfl (by kernel_rfl) (ne_ (cw_true rfl (cw_seq ?_)))))))))))))
   refine cw_region (mv 2 rfl (ne_ (cw_ret (eo_thenR (eo_block_ret (eo_thenR (eo_loopR (eo_block_ret (eo_thenR (eo_ret [.float .f64 0,.int .i64 3] rfl ⟨rfl,rfl,trivial⟩ ?_))))))))))
   have ha:=allF_f (by omega) hfi
   have e1:totB fs=0:=totB_f ha
   have e2:totE fs=3:=totE_f ha
   rw [e1,e2]
   exact⟨_,rfl,⟨_,_,rfl,rfl,rfl⟩,hw2⟩
 · 
  have hie:i=n:=by omega
  have htk:fs.take i=fs:=List.take_of_length_le (by omega)
  rw [htk] at zp
  refine cw_region (wl_cmp rfl rfl rfl false (cb_lt_f (a:=i) (b:=n) rfl rfl (by omega)) (by decide) (ne_ (cw_seq (cw_false rfl (cw_exit (eo_thenX (eo_loopX (eo_block_here (eo_then (cw_seq ?_))))))))))
  obtain⟨u,hu⟩:∃u,1*2^e74=u:=⟨_,rfl⟩
  have hu0:0<u:=hu▸u1074_pos
  have hul:(wd u).length≤66:=hu▸len_u1074
  obtain⟨nb,hnb⟩:∃nb,nearB (Int.natAbs (sumF fs)*2^e74) u=nb:=⟨_,rfl⟩
  have hnl:nb≤9218868437227405312:=hnb▸nearB_le _ _
  have e0:nb=nearB (Int.natAbs (sumF fs)) 1:=by rw [←hnb,←hu,near_1074]
  replace hu:=Lib.hid hu
  replace hnb:=Lib.hid hnb
  replace e0:=Lib.hid e0
  refine cw_draw mix 8 [] [Is (.pointer (some ⟨g1,0,none⟩)),Is (.bool kp.s),Is (.pointer (some ⟨g1,1,none⟩)),Is (.slice kp.A kp.n kp.c),WR w.heap.size (1),WR w.heap.size (u),Is (.float .f64 nb),Is (.float .f64 (sgB kp.s nb))] [[],[0],[],[2],[],[4],[3,5],[1,6]] [[],[0],[],[2],[],[4],[2,3,4,5],[0,1,2,3,4,5,6],[0,1,2,3,4,5,6,7],[0,1,2,3,4,5,6,7,8]] rfl
   (obs_cons rfl rfl (hob rfl rfl ?_) (obs_cons rfl rfl (hob rfl rfl ?_) (obs_cons rfl rfl (hob rfl rfl ?_) (obs_cons rfl rfl (hob rfl rfl ?_) (obs_cons rfl rfl (hob rfl rfl ?_) (obs_cons rfl rfl (hob rfl rfl ?_) (obs_cons rfl rfl (hob rfl rfl ?_) (obs_cons rfl rfl (hob rfl rfl ?_) obs_nil)))))))) ?_
  · 
   exact fun _ _=>deps_nil (pf g1 0 rfl (by kernel_rfl) (pi_done rfl (Ext.refl _) rfl))
  · 
   exact fun _ e157=>dk rfl rfl (deps_nil (wl_load rfl rfl (load_cell cellBool (hB.ext e157) rfl) (by decide) (pi_done rfl (Ext.refl _) rfl)))
  · 
   exact fun _ _=>deps_nil (pf g1 1 rfl (by kernel_rfl) (pi_done rfl (Ext.refl _) rfl))
  · 
   exact fun _ e166=>dk rfl rfl (deps_nil (wl_load rfl rfl (load_cell cellWords (hB.ext e166) rfl) (by decide) (pi_done rfl (Ext.refl _) rfl)))
  · 
   intro v172 e173
   have hw2:=hw1.trans e173
   refine deps_nil (wl_bslice rfl rfl (by decide) (k:=1) (e:=24) [.int .u64 1] (fun _=>by kernel_rfl) fun g174 v175 nb176=>?_)
   have o177:=O1.mk_ (x:=1) (b:=w.heap.size) nb176 hw2.size
   have e178:=nb176.ext
   have hw3:=hw2.trans e178
   have o180:=own1_wd o177 (show 1≤18446744073709551615 by decide) (show 1≠0 by decide)
   have j179:=len1 (show 1≤18446744073709551615 by decide) (show 1≠0 by decide)
   exact pi_done rfl e178 ⟨_,_,_,rfl,j179,o180⟩
  · 
   intro v181 e182
   have hw2:=hw1.trans e182
   refine deps_cons rfl rfl fun x183 y184 h185 e186 f187=>?_
   obtain⟨A188,n188,c188,rfl,j188,o188⟩:=h185
   have o188:=o188.ext f187
   refine deps_nil (cl (vs:= [.slice A188 n188 c188,.int .i64 1074]) hw2 (g_shifted_u (b:=w.heap.size) hu.out hw2.size o188.wi (by rw [j188];exact Nat.le_trans (Nat.le_of_eq (len1 (show 1≤18446744073709551615 by decide) (show 1≠0 by decide)).symm) (by decide))) rfl (by kernel_rfl) fun xr191 v189 r191 e190 hw3=>?_)
   obtain⟨A192,n192,c192,rfl,j192,o192⟩:=r191
   exact pi_done rfl e190 ⟨_,_,_,rfl,j192,o192⟩
  · 
   intro v193 e194
   have hw2:=hw1.trans e194
   refine dk rfl rfl (deps_cons rfl rfl fun x200 y201 h202 e203 f204=>?_)
   obtain⟨A205,n205,c205,rfl,j205,o205⟩:=h202
   have o205:=o205.ext f204
   refine deps_nil (cl (vs:= [.slice kp.A kp.n kp.c,.slice A205 n205 c205]) hw2 (g_nearest_e (zp.ext e194).zi.wi (zp.le (Nat.le_trans (ln_of_bd (k:=0) (by have:=sumF_bd2 hfin (by omega);rwa [htk] at this) (by omega)) (by decide))) o205.wi (by rw [j205];exact Nat.le_trans hul (by decide)) hu0 hnb.out) rfl (by kernel_rfl) fun xr208 v206 r208 e207 hw3=>?_)
   obtain rfl:=r208
   exact pi_done rfl e207 rfl
  · 
   intro v209 e210
   have hw2:=hw1.trans e210
   refine dk rfl rfl (dk rfl rfl (deps_nil (cl (vs:= [.bool kp.s,.float .f64 nb]) hw2 (g_signed (ng:=kp.s) hnl) rfl (by kernel_rfl) fun xr223 v221 r223 e222 hw3=>?_)))
   obtain rfl:=r223
   exact pi_done rfl e222 rfl
  · 
   intro v224 e225
   have hw2:=hw1.trans e225
   refine dk rfl rfl (dk rfl rfl (dk rfl rfl (dk rfl rfl (deps_cons rfl rfl fun x246 y247 h248 e249 f250=>?_))))
   obtain⟨A251,n251,c251,rfl,j251,o251⟩:=h248
   have o251:=o251.ext f250
   refine deps_cons rfl rfl fun x252 y253 h254 e255 f256=>?_
   obtain⟨A257,n257,c257,rfl,j257,o257⟩:=h254
   have o257:=o257.ext f256
   refine dk rfl rfl (dk rfl rfl (deps_nil (mv 2 rfl (wl_nil (eo_np (eo_then (cw_ret (eo_ret [.float .f64 (sgB kp.s nb),I0] rfl ⟨rfl,rfl,trivial⟩ ?_))))))))
   have ha:=allF_t (fun j hj=>hfin j (by omega))
   have e1:totB fs=sgB kp.s nb:=by rw [totB_t ha,e0.out,zp.sgn,totS]
   have e2:totE fs=0:=totE_t ha
   rw [e1,e2]
   exact⟨_,rfl,⟨_,_,rfl,rfl,rfl⟩,hw2⟩
end Go.Proofs.Ytgilhcdglaneiaa

namespace Go.Proofs.Ytgilhcdglaneiaa
open Go.RowKit
open Ieee
theorem near_three:nearB (3*2^e74) 1=4613937818241073152:=by
 have e:rv 4613937818241073152=3*2^e74:=by
  obtain⟨p,hp⟩:∃p,p=1023:=⟨_,rfl⟩
  have h:=rv_form (p:=p) (m:=6755399441055744) (Or.inr (by decide)) (by decide)
  rw [show p*4503599627370496+6755399441055744=4613937818241073152 by subst hp;decide] at h
  have e0:e74=51+p:=by rw [e74_eq,hp]
  rw [h,e0,Nat.pow_add,←Nat.mul_assoc]
 have h:=nearR_self (D:=1) (r:=4613937818241073152) (by decide)
 rw [Nat.one_mul,e] at h
 unfold nearB
 rw [h];rfl
theorem nrB_m3:nrB (sg true 3)=13837309855095848960:=by
 unfold nrB
 have e1:(sg true 3).natAbs=3:=rfl
 have e2:decide (sg true 3<0)=true:=by decide
 rw [e1,e2,near_three];rfl
theorem awake7:(FloatKind.f64.format.order (nrB (sg true 3)) 13837309855095848960==some .eq)=true:=by
 rw [nrB_m3]
 show (double.order 13837309855095848960 13837309855095848960==some .eq)=true
 rw [order_fin (by decide) (by decide) (by decide) (by decide),Int.compare_eq_eq.2 rfl];rfl
def btB (f:Nat):Nat:=if mg f=0 then 0 else f
theorem flt_eq0_all (f:Nat):(FloatKind.f64.format.order f 0==some .eq)=decide (mg f=0):=by
 by_cases h:fin f
 ·exact flt_eq0 h
 ·rw [flt_eq0_not h,decide_eq_false (fun e=>h (by unfold fin;rw [e];decide))]
set_option maxHeartbeats 4000000 in
theorem g_awake7 {w:World}:
    Calls Try.prog 9 #[] w (Gv w (Is (.bool true))):=by
 refine sx_enter Try.func9 rfl (n:=7) rfl (bq rfl) (args:= []) (cw_keep [] trivial (sr (mv 1 rfl (ne_ (sr (wl_bslice rfl rfl (by decide) (k:=1) (e:=24) [.int .u64 3] (fun _=>by kernel_rfl) fun g1 v2 nb3=>?_))))))
 have o4:=O1.mk_ (x:=3) (b:=w.heap.size) nb3 (Ext.refl w).size
 have e5:=nb3.ext
 have hw1:=(Ext.refl w).trans e5
 have o7:=own1_wd o4 (show 3≤18446744073709551615 by decide) (show 3≠0 by decide)
 have j6:=len1 (show 3≤18446744073709551615 by decide) (show 3≠0 by decide)
 have z8:=Zr_sg true (show 3≠0 by decide) j6 o7
 refine pu (v:= .agg #[.bool true,.slice (some ⟨g1,0,none⟩) 1 1]) rfl (by kernel_rfl) (cl (vs:= [.agg #[.bool true,.slice (some ⟨g1,0,none⟩) 1 1]]) hw1 (g_Near z8.zi (z8.le (Nat.le_trans (ln_sg (s:=true) (Nat.le_of_eq j6.symm)) (by decide)))) rfl (by kernel_rfl) fun xr11 v9 r11 e10 hw2=>?_)
 obtain rfl:=r11
 refine mv 1 rfl (ne_ (sr (mv 1 rfl (wl_pureE rfl rfl (v:= .bool (FloatKind.f64.format.order (nrB (sg true 3)) 13837309855095848960==some .eq)) (v':= .bool true) (by decide) (by kernel_rfl) (congrArg Value.bool awake7) (mv 1 rfl (ne_ (cw_ret (eo_ret [.bool true] rfl ⟨rfl,trivial⟩ ?_))))))))
 exact⟨_,rfl,rfl,hw2⟩
set_option maxHeartbeats 4000000 in
theorem g_finite {w:World}{f:Nat}(hf:fin f):
    Calls Try.prog 12 #[.float .f64 f] w (Gv w (Is (.bool true))):=by
 refine sx_enter Try.func12 rfl (n:=7) rfl (bq rfl) (args:= [.float .f64 f]) (cw_keep [(0,.float .f64 f)] ⟨rfl,trivial⟩ (sr (mv 1 rfl (ne_ (sr (mv 2 rfl (wl_op rfl rfl rfl (r:= .float .f64 0) rfl (fun w=>run_float_arith w .sub _ .f64 f f 0 (sub_fin hf)) (by decide) (wl_pureE rfl rfl (v:= .bool (FloatKind.f64.format.order 0 0==some .eq)) (v':= .bool true) (by decide) (by kernel_rfl) (congrArg Value.bool (by decide)) (mv 1 rfl (ne_ (cw_ret (eo_ret [.bool true] rfl ⟨rfl,trivial⟩ ?_))))))))))))
 exact⟨_,rfl,rfl,(Ext.refl w)⟩
set_option maxHeartbeats 4000000 in
theorem g_finite_bad {w:World}{f:Nat}(hf:¬fin f):
    Calls Try.prog 12 #[.float .f64 f] w (Gv w (Is (.bool false))):=by
 refine sx_enter Try.func12 rfl (n:=7) rfl (bq rfl) (args:= [.float .f64 f]) (cw_keep [(0,.float .f64 f)] ⟨rfl,trivial⟩ (sr (mv 1 rfl (ne_ (sr (mv 2 rfl ?_))))))
 obtain⟨r,hr,hrun⟩:=sub_nan hf Try.prog 35 w
 refine wl_opW rfl rfl rfl rfl hrun (by decide) ?_
 have hw1:Ext w w.drew:=(Ext.refl w).trans (Ext.refl w).drew
 refine wl_pureE rfl rfl (v:= .bool (FloatKind.f64.format.order r 0==some .eq)) (v':= .bool false) (by decide) (by kernel_rfl) (congrArg Value.bool (flt_eq0_not hr)) (mv 1 rfl (ne_ (cw_ret (eo_ret [F0] rfl ⟨rfl,trivial⟩ ?_))))
 exact⟨_,rfl,rfl,hw1⟩
set_option maxHeartbeats 4000000 in
theorem g_bits7 {w:World}{f:Nat}:
    Calls Try.prog 13 #[.float .f64 f] w (Gv w (Is (.int .u64 ((btB f:Nat):Int)))):=by
 refine sx_enter Try.func13 rfl (n:=7) rfl (bq rfl) (args:= [.float .f64 f]) (cw_keep [(0,.float .f64 f)] ⟨rfl,trivial⟩ (sr (mv 1 rfl (ne_ (cw_seq (cw_seq ?_))))))
 by_cases hz:mg f=0
 · 
  refine cw_region (mv 1 rfl (wl_pureE rfl rfl (v:= .bool (FloatKind.f64.format.order f 0==some .eq)) (v':= .bool true) (by decide) (by kernel_rfl) (congrArg Value.bool ((flt_eq0_all f).trans (decide_eq_true hz))) (ne_ (cw_true rfl (sr (mv 1 rfl (ne_ (cw_ret (eo_thenR (eo_ret [.int .u64 0] rfl ⟨rfl,trivial⟩ ?_))))))))))
  exact⟨_,rfl,(show Value.int .u64 0=_ by rw [show btB f=_ from if_pos hz];rfl),(Ext.refl w)⟩
 · 
  refine cw_region (mv 1 rfl (wl_pureE rfl rfl (v:= .bool (FloatKind.f64.format.order f 0==some .eq)) (v':= .bool false) (by decide) (by kernel_rfl) (congrArg Value.bool ((flt_eq0_all f).trans (decide_eq_false hz))) (ne_ (cw_false rfl (cw_skip (eo_then (sr (mv 1 rfl (pu (v:= .int .u64 ((f:Nat):Int)) rfl (by kernel_rfl) (mv 1 rfl (ne_ (cw_ret (eo_ret [.int .u64 ((f:Nat):Int)] rfl ⟨rfl,trivial⟩ ?_)))))))))))))
  exact⟨_,rfl,(show Value.int .u64 ((f:Nat):Int)=_ by rw [show btB f=_ from if_neg hz]),(Ext.refl w)⟩
def FL (b n:Nat) (xs:List Nat) (v:Value) (w:World):Prop:=∃g,v= .slice (some ⟨g,0,none⟩) n n∧b≤g∧Bk w g 35 (xs.map F64)
theorem copy_step {l xs:List Nat}{i:Nat}(hi:i<l.length) (hx:i<xs.length) (h:l.take i=xs.take i):(l.set i (xs.getD i 0)).take (i+1)=xs.take (i+1):=by
 rw [List.take_add_one,List.take_add_one,List.take_set_of_le (Nat.le_refl _),h,List.getElem?_set_self hi,List.getD_eq_getElem?_getD,List.getElem?_eq_getElem hx]
 rfl
set_option maxHeartbeats 4000000 in
theorem g_floats {w:World}{A:Option Addr}{n cap b0:Nat}{xs:List Nat}(hb0:b0≤w.heap.size) (hx:Rd w A n cap xs) (hn:n≤1048576):
    Calls Try.prog 10 #[.slice A n cap] w (Gv w (FL b0 n xs)):=by
 have hlen:=hx.len
 refine sx_enter Try.func10 rfl (n:=23) rfl (bq rfl) (args:= [.slice A n cap]) (cw_keep [(0,.slice A n cap)] ⟨rfl,trivial⟩ (sr (mv 1 rfl (ne_ (sr (mv 1 rfl (pu (v:= .int .i64 ((n:Nat):Int)) rfl (by kernel_rfl) (wl_make rfl (k:=n) rfl rfl rfl un_f64 infoF64 rfl (by decide) (by omega) (by decide) fun g1 v2 hg3 hb4 e5=>?_))))))))
 rw [replicate_F64] at hb4
 have ge6:w.heap.size≤g1:=by rw [←hg3];exact (Ext.refl w).size
 have ne8:0<cap→∀a,A=some a→a.block≠g1:=fun hc a ha=>by have:=(hx).rv.blk a ha hc;omega
 clear hg3
 have hw1:=(Ext.refl w).trans e5
 refine mv 1 rfl (ne_ (cw_seq (sr (mv 1 rfl (ne_ (cw_block ?_))))))
 refine cw_loop (T:=World×Nat×List Nat)
  (fun⟨wr,i,l⟩=> [(0,.slice A n cap),(3,.slice (some ⟨g1,0,none⟩) n n),(4,.int .i64 ((i:Nat):Int))])
  (fun⟨wr,i,l⟩=>wr)
  (fun⟨wr,i,l⟩=>(Ext w wr)∧(i≤n)∧(Bk wr g1 35 (l.map F64))∧(l.length=n)∧(l.take i=xs.take i)∧(Rd wr A n cap xs))
  (fun⟨wr,i,l⟩=>n-i)
  (⟨v2,0,_⟩:World×Nat×List Nat) ⟨hw1,(Nat.zero_le _),hb4,(List.length_replicate (n:=n) (a:=0)),(by rw [List.take_zero,List.take_zero]),(hx.ext e5)⟩ rfl ⟨rfl,rfl,rfl,trivial⟩ ?_
 rintro⟨wr,i,l⟩ ⟨hw1,hi,hb,hl,hv,rl0⟩
 refine cw_re [(0,.slice A n cap),(3,.slice (some ⟨g1,0,none⟩) n n),(4,.int .i64 ((i:Nat):Int))] wr rfl ⟨rfl,rfl,rfl,trivial⟩ (cw_seq (cw_seq ?_))
 by_cases hin:i<n
 · 
  refine cw_region (mv 2 rfl (pu (v:= .int .i64 ((n:Nat):Int)) rfl (by kernel_rfl) (wl_cmp rfl rfl rfl true (cb_lt_t (a:=i) (b:=n) rfl rfl (by omega)) (by decide) (ne_ (cw_true rfl (cw_skip (eo_then (cw_seq (cw_block (cw_region (mv 4 rfl ?_)))))))))))
  obtain⟨p9,hp9,hc9,hv9⟩:=(rl0).at (i:=i) (by omega)
  refine wl_idx rfl rfl rfl un_u64 sz_u64 i rfl (by omega) p9 hp9 (by decide) (wl_load rfl rfl (load_cell1 ag_u64 hc9) (by decide) (pu (v:= .float .f64 (xs.getD i 0)) rfl (by kernel_rfl) (wl_idx rfl rfl rfl un_f64 sz_f64 i rfl (by omega) ⟨g1,i,none⟩ (arr_at _ _) (by decide) ?_)))
  have hb11:=hb
  refine wl_stored1 rfl rfl rfl sz_f64 rfl hb11 (len_map (by rw [hl];omega)) rfl ((l.set i (xs.getD i 0)).map F64) (map_F64_set _ _ _) fun v10 hb12 u13 hs14=>?_
  have hw2:=u13.ext hw1 ge6
  refine wl_nil (eo_block_normal (eo_then (cw_region (mv 1 rfl (wl_ar rfl rfl rfl ((i+1:Nat):Int) (ai_add (a:=i) (b:=1) rfl rfl (by omega)) (by decide) (mv 1 rfl (wl_nil (eo_round (⟨v10,i+1,_⟩:World×Nat×List Nat) ⟨hw2,(by omega),hb12,(by rw [List.length_set];exact hl),(copy_step (by omega) (by omega) hv),(Rd.updL rl0 u13 ne8)⟩ (show n-(i+1)<n-i by omega) rfl ⟨rfl,rfl,rfl,trivial⟩))))))))
 · 
  have hie:i=n:=by omega
  have hlx:l=xs:=by rw [hie,List.take_of_length_le (by omega),List.take_of_length_le (by omega)] at hv;exact hv
  refine cw_region (mv 2 rfl (pu (v:= .int .i64 ((n:Nat):Int)) rfl (by kernel_rfl) (wl_cmp rfl rfl rfl false (cb_lt_f (a:=i) (b:=n) rfl rfl (by omega)) (by decide) (ne_ (cw_false rfl (cw_exit (eo_thenX (eo_loopX (eo_block_here (eo_then (sr (mv 2 rfl (wl_nil ?_)))))))))))))
  refine eo_then (cw_ret (eo_ret [.slice (some ⟨g1,0,none⟩) n n] rfl ⟨rfl,trivial⟩ ?_))
  have hB:=hb
  rw [hlx] at hB
  exact⟨_,rfl,⟨g1,rfl,Nat.le_trans hb0 ge6,hB⟩,hw1⟩
end Go.Proofs.Ytgilhcdglaneiaa

namespace Go.Proofs.Ytgilhcdglaneiaa
open Go.RowKit
theorem rung75 {p:Nat}(h:p=1074):(p+1)*4503599627370496+4503599627370496=4845873199050653696:=by subst h;decide
theorem near_whole (N : Nat) : ∃ q, rv (nearR (N * 2 ^ e74) 1) = q * 2 ^ e74 ∧ (N ≤ 9007199254740992 → q = N) ∧ (9007199254740992 < N → ∃ q1 q2 s, s + 1 = nearR (N * 2 ^ e74) 1 ∧ rv s = q1 * 2 ^ e74 ∧ rv (nearR (N * 2 ^ e74) 1 + 1) = q2 * 2 ^ e74 ∧ 9007199254740992 ≤ q) := by
  by_cases hN : N ≤ 9007199254740992
  · have hex : ∃ r, rv r = N * 2 ^ e74 := by
      by_cases h0 : N = 0
      · exact ⟨0, by rw [h0, rv_low (by decide), Nat.zero_mul]⟩
      · -- the digits of N, moved up
        have hb := lt_blen N
        have hl := blen_le_self h0
        have hb53 : blen N ≤ 54 := blen_le (Nat.lt_of_le_of_lt hN (by decide))
        have hb0 : blen N ≠ 0 := fun e => h0 (blen_eq_zero.1 e)
        by_cases he : blen N ≤ 53
        · have e : N * 2 ^ (53 - blen N) < 9007199254740992 := by
            have : N * 2 ^ (53 - blen N) < 2 ^ blen N * 2 ^ (53 - blen N) := (Nat.mul_lt_mul_right (Nat.two_pow_pos _)).2 hb
            rw [← Nat.pow_add, show blen N + (53 - blen N) = 53 by omega] at this
            exact this
          have e2 : 4503599627370496 ≤ N * 2 ^ (53 - blen N) := by
            have : 2 ^ (blen N - 1) * 2 ^ (53 - blen N) ≤ N * 2 ^ (53 - blen N) := Nat.mul_le_mul_right _ hl
            rw [← Nat.pow_add, show blen N - 1 + (53 - blen N) = 52 by omega] at this
            exact this
          refine ⟨(1021 + blen N) * 4503599627370496 + N * 2 ^ (53 - blen N), ?_⟩
          rw [rv_form (Or.inr e2) (Nat.le_of_lt e), Nat.mul_assoc, ← Nat.pow_add, show 53 - blen N + (1021 + blen N) = e74 by rw [e74_eq]; omega]
        · have hN2 : N = 9007199254740992 := by
            have : 2 ^ (blen N - 1) ≤ N := hl
            rw [show blen N - 1 = 53 by omega] at this
            exact Nat.le_antisymm hN this
          refine ⟨(e74 + 1) * 4503599627370496 + 4503599627370496, ?_⟩
          rw [rv_form (Or.inr (Nat.le_refl _)) (by decide), hN2, Nat.pow_succ, Nat.mul_comm (2 ^ e74) 2, ← Nat.mul_assoc]
    obtain ⟨r, hr⟩ := hex
    have hs := nearR_self (D := 1) (r := r) (by decide)
    rw [Nat.one_mul, hr] at hs
    exact ⟨N, by rw [hs, hr], fun _ => rfl, fun h => absurd h (by omega)⟩
  · -- from 2^53 on
    have h53 : rv 4845873199050653696 = 9007199254740992 * 2 ^ e74 := by
      have h := rv_form (p := e74 + 1) (m := 4503599627370496) (Or.inr (by decide)) (by decide)
      rw [rung75 e74_eq] at h
      rw [h, Nat.pow_succ, Nat.mul_comm (2 ^ e74) 2, ← Nat.mul_assoc]
    have hlow : 4845873199050653696 ≤ nearR (N * 2 ^ e74) 1 := by
      refine Nat.le_of_not_lt fun hlt => ?_
      have h1 := (nearR_is (X := N * 2 ^ e74) (D := 1) (by decide)).hi.1
      have h2 : rv (nearR (N * 2 ^ e74) 1 + 1) ≤ rv 4845873199050653696 := rv_le hlt
      have h3 := rv_lt hlt
      have h4 : 9007199254740993 * 2 ^ e74 ≤ N * 2 ^ e74 := Nat.mul_le_mul_right _ (by omega)
      have h5 := Nat.two_pow_pos e74
      rw [Nat.one_mul] at h1
      rw [h53] at h2 h3
      generalize (2 : Nat) ^ e74 = U at *
      omega
    have key : ∀ r, 4845873199050653695 ≤ r → ∃ q, rv r = q * 2 ^ e74 := by
      intro r hr
      have e : rv r = (4503599627370496 + r % 4503599627370496) * 2 ^ (r / 4503599627370496 - 1) := by
        unfold rv; rw [if_neg (by omega)]
      refine ⟨(4503599627370496 + r % 4503599627370496) * 2 ^ (r / 4503599627370496 - 1 - e74), ?_⟩
      rw [e, Nat.mul_assoc, ← Nat.pow_add, show r / 4503599627370496 - 1 - e74 + e74 = r / 4503599627370496 - 1 by have := e74_eq; omega]
    obtain ⟨q, hq⟩ := key _ (Nat.le_trans (by decide) hlow)
    refine ⟨q, hq, fun h => absurd h hN, fun _ => ?_⟩
    obtain ⟨s, hs⟩ : ∃ s, s + 1 = nearR (N * 2 ^ e74) 1 := ⟨nearR (N * 2 ^ e74) 1 - 1, by omega⟩
    obtain ⟨q1, h1⟩ := key s (by omega)
    obtain ⟨q2, h2⟩ := key (nearR (N * 2 ^ e74) 1 + 1) (by omega)
    refine ⟨q1, q2, s, hs, h1, h2, ?_⟩
    have h3 := rv_le hlow
    rw [h53, hq] at h3
    exact Nat.le_of_mul_le_mul_right h3 (Nat.two_pow_pos e74)
theorem lim_rv:rv 9218868437227405311+rv 9218868437227405312=2*((2^e24-2^e70)*2^e74):=by
 have e1:(2:Nat)^e24=18014398509481984*2^e70:=by
  have h:e24=54+e70:=by rw [e24_eq,e70_eq]
  rw [h,Nat.pow_add]
 have e2:(2:Nat)^e45=2^e70*2*2^e74:=by
  have h:e45=e70+1+e74:=by rw [e45_eq,e70_eq,e74_eq]
  rw [h,Nat.pow_add,Nat.pow_succ]
 rw [rv_top,rv_inf,e98_45,e1,e2]
 generalize (2:Nat)^e70=a
 generalize (2:Nat)^e74=b
 have f1:a*2*b=2*(a*b):=by rw [Nat.mul_right_comm,Nat.mul_comm]
 have f3:(18014398509481984*a-a)*b=18014398509481983*(a*b):=by rw [show 18014398509481984*a-a=18014398509481983*a by omega,Nat.mul_assoc]
 rw [f1,f3]
 generalize a*b=c
 omega
theorem near_lim (N:Nat):9218868437227405312≤nearR (N*2^e74) 1↔2^e24-2^e70≤N:=by
 have h:=nearR_ge (X:=N*2^e74) (D:=1) (s:=9218868437227405311) (by decide) (by decide)
 rw [show 9218868437227405311+1=9218868437227405312 from rfl] at h
 rw [h,Nat.one_mul,lim_rv]
 have hu:=Nat.two_pow_pos e74
 generalize (2:Nat)^e24-2^e70=L
 constructor
 ·intro h
  have h2:L*2^e74≤N*2^e74:=by generalize L*2^e74=p at*;generalize N*2^e74=q at*;omega
  exact Nat.le_of_mul_le_mul_right h2 hu
 ·intro h
  have h2:L*2^e74≤N*2^e74:=Nat.mul_le_mul_right _ h
  generalize L*2^e74=p at*
  generalize N*2^e74=q at*
  omega
theorem sg_whV {f q:Nat}{s:Bool}(hs:sgnb f=s∨q=0) (hq:rv (mg f)=q*2^e74):whV f=sg s q∧fv f=whV f*((2^e74:Nat):Int):=by
 have e:whV f=sg (sgnb f) q:=by unfold whV;rw [hq,Nat.mul_div_cancel _ (Nat.two_pow_pos e74)]
 have e2:fv f=sg (sgnb f) q*((2^e74:Nat):Int):=by unfold fv;rw [hq,sg_mulN]
 refine⟨?_,by rw [e];exact e2⟩
 rw [e]
 rcases hs with h | h
 ·rw [h]
 ·rw [h,sg_z0,sg_z0]
structure NrF (x:Int) (f r q:Nat):Prop where
 near:nearR (x.natAbs*2^e74) 1=r
 lt:r<9218868437227405312
 b64:f<18446744073709551616
 fn:fin f
 top:f≠9223372036854775808
 mgf:mg f=r
 sgn:r≠0→sgnb f=decide (x<0)
 val:f=if x<0∧r≠0 then r+9223372036854775808 else r
 rvq:rv r=q*2^e74
 wh:whV f=sg (decide (x<0)) q
 fvw:fv f=whV f*((2^e74:Nat):Int)
 ex:x.natAbs≤9007199254740992→q=x.natAbs
theorem nr_facts {x:Int}{f:Nat}(hf:nrB x=f) (hl:x.natAbs<2^e24-2^e70):∃r q,NrF x f r q:=by
 obtain⟨r,hr⟩:∃r,nearR (x.natAbs*2^e74) 1=r:=⟨_,rfl⟩
 obtain⟨q,hq,hex,_⟩:=near_whole x.natAbs
 rw [hr] at hq
 have hlt:r<9218868437227405312:=by
  have:=near_lim x.natAbs
  rw [hr] at this
  exact Nat.lt_of_not_le fun h=>absurd (this.1 h) (Nat.not_le.2 hl)
 have hv:f=if x<0∧r≠0 then r+9223372036854775808 else r:=by
  rw [←hf]
  unfold nrB nearB sgB
  rw [hr,Nat.min_eq_left (Nat.le_of_lt hlt)]
  by_cases h:x<0
  ·simp [h]
  ·simp [h]
 have hm:mg f=r:=by
  unfold mg
  rw [hv]
  split <;> omega
 have hs:r≠0→sgnb f=decide (x<0):=by
  intro h0
  unfold sgnb
  rw [hv]
  by_cases h:x<0
  ·rw [if_pos ⟨h,h0⟩,decide_eq_true h];exact decide_eq_true (by omega)
  ·rw [if_neg (fun e=>h e.1),decide_eq_false h];exact decide_eq_false (by omega)
 have hq0:r=0→q=0:=by
  intro h
  rw [h,rv_low (by decide)] at hq
  have:=Nat.two_pow_pos e74
  rcases Nat.mul_eq_zero.1 hq.symm with h | h
  ·exact h
  ·omega
 have hw:=sg_whV (f:=f) (q:=q) (s:=decide (x<0)) (by
  by_cases h0:r=0
  ·exact Or.inr (hq0 h0)
  ·exact Or.inl (hs h0)) (by rw [hm];exact hq)
 refine⟨r,q,hr,hlt,?_,?_,?_,hm,hs,hv,hq,hw.1,hw.2,hex⟩
 ·rw [hv];split <;> omega
 ·unfold fin;rw [hm];exact hlt
 ·rw [hv];split <;> omega
theorem g_Near_e {w:World}{s:Bool}{A:Option Addr}{n cap:Nat}{x:Int}{f:Nat}(hf:nrB x=f) (hx:Zi w s A n cap x) (la:n≤67108864):Calls Try.prog 17 #[.agg #[.bool s,.slice A n cap]] w (Gv w (Is (.float .f64 f))):=by
 subst hf;exact g_Near hx la
theorem Rk.rv {k:IntKind}{w:World}{A:Option Addr}{n cap:Nat}{xs:List Int}(h:Rk k w A n cap xs):Rk k w A n cap xs:=h
theorem Rk.updO {k:IntKind}{w w':World}{A B:Option Addr}{n cap:Nat}{xs:List Int}(h:Rk k w A n cap xs) (e:UpdO B w w') (hne:∀p a,B=some p→A=some a→0<cap→a.block≠p.block):Rk k w' A n cap xs:=
 ⟨h.len,fun i hi=>by
  obtain⟨a,ha,hc,hb⟩:=h.get i hi
  refine⟨a,ha,e.by_.cell hc (fun e2=>?_),hb⟩
  rw [block_of_add] at e2
  cases B with
  | none=>cases e2
  | some p=>exact hne p a rfl ha (by have:=h.le;omega) (Option.some.inj e2),fun a ha hc=>Nat.lt_of_lt_of_le (h.blk a ha hc) e.size,h.le⟩
theorem UpdO.upd0 {g:Nat}{w w':World}(h:UpdO (some ⟨g,0,none⟩) w w'):Upd g w w':=⟨h.by_⟩
theorem bk_news {w:World}{g:Nat}{t:TypeId}{vs:List Value}(h:Bk w g t vs):∀j u,vs[j]?=some u→w.cell? ((⟨g,0,none⟩:Addr).add j)=some u:=by
 intro j u hj
 rw [add_lit0,Nat.zero_add]
 obtain⟨h1,h2⟩:=List.getElem?_eq_some_iff.1 hj
 rw [h.cell h1,List.getD_eq_getElem?_getD,hj];rfl
theorem allc_F (l:List Nat):(l.map F64).all (·.oneCell')=true:=by
 rw [List.all_eq_true]
 intro v hv
 obtain⟨x,_,rfl⟩:=List.mem_map.1 hv
 rfl
theorem wf64 {xs:List Nat}(h:Wf xs):∀x,x∈xs→x<18446744073709551616:=fun x hx=>by have:=h x hx;rwa [WB_def] at this
theorem mem_getD7 {l:List Nat}{i:Nat}(h:i<l.length):l.getD i 0∈l:=by
 rw [List.getD_eq_getElem?_getD,List.getElem?_eq_getElem h];exact List.getElem_mem _
def swp (l:List Nat) (p q:Nat):List Nat:=(l.set p (l.getD q 0)).set q (l.getD p 0)
theorem swp_len (l:List Nat) (p q:Nat):(swp l p q).length=l.length:=by unfold swp;rw [List.length_set,List.length_set]
theorem mem_set7 {l:List Nat}{i v x:Nat}(h:x∈l.set i v):x∈l∨x=v:=List.mem_or_eq_of_mem_set h
theorem swp_mem {l:List Nat}{p q x:Nat}(hp:p<l.length) (hq:q<l.length) (h:x∈swp l p q):x∈l:=by
 unfold swp at h
 rcases mem_set7 h with h | h
 ·rcases mem_set7 h with h | h
  ·exact h
  ·rw [h];exact mem_getD7 hq
 ·rw [h];exact mem_getD7 hp
theorem sumF_set {l:List Nat}{i v:Nat}(h:i<l.length):sumF (l.set i v)+fv (l.getD i 0)=sumF l+fv v:=by
 unfold sumF
 induction l generalizing i with
 | nil=>simp at h
 | cons a r ih=>
  cases i with
  | zero=>simp;omega
  | succ i=>
   have:=ih (i:=i) (by simpa using h)
   simp at this⊢
   omega
theorem swp_sum {l:List Nat}{p q:Nat}(hp:p<l.length) (hq:q<l.length):sumF (swp l p q)=sumF l:=by
 unfold swp
 have h1:=sumF_set (v:=l.getD q 0) hp
 have h2:=sumF_set (l:=l.set p (l.getD q 0)) (v:=l.getD p 0) (i:=q) (by rw [List.length_set];exact hq)
 have h3:(l.set p (l.getD q 0)).getD q 0=l.getD q 0:=by
  by_cases e:p=q
  ·subst e;rw [List.getD_eq_getElem?_getD,List.getElem?_set_self hp];rfl
  ·rw [List.getD_eq_getElem?_getD,List.getElem?_set_ne e,←List.getD_eq_getElem?_getD]
 rw [h3] at h2
 omega
theorem allF_mem {l:List Nat}:allF l=true↔ ∀x∈l,fin x:=by
 unfold allF
 rw [List.all_eq_true]
 exact⟨fun h x hx=>of_decide_eq_true (h x hx),fun h x hx=>decide_eq_true (h x hx)⟩
theorem totS_top (S:Int):totS S≠9223372036854775808∧totS S<18446744073709551616:=by
 unfold totS sgB
 have:=nearB_le S.natAbs 1
 by_cases h:decide (S<0)=true∧nearB S.natAbs 1≠0
 ·rw [if_pos h];omega
 ·rw [if_neg h];omega
theorem g_Total_e {w:World}{A:Option Addr}{n cap:Nat}{fs:List Nat}{tb:Nat}(hx:Rf w A n cap fs) (hn:n≤2097152) (ha:allF fs=true) (ht:totS (sumF fs)=tb):
  Calls Try.prog 11 #[.slice A n cap] w (Gv w (T2 (Is (.float .f64 tb)) (Is (.int .i64 0)))):=by
 have h:=g_Total hx hn
 rw [totB_t ha,totE_t ha,ht] at h
 exact h
theorem g_Total_b {w:World}{A:Option Addr}{n cap:Nat}{fs:List Nat}(hx:Rf w A n cap fs) (hn:n≤2097152) (ha:allF fs=false):
  Calls Try.prog 11 #[.slice A n cap] w (Gv w (T2 (Is (.float .f64 0)) (Is (.int .i64 3)))):=by
 have h:=g_Total hx hn
 rw [totB_f ha,totE_f ha] at h
 exact h
theorem g_bits_e7 {w:World}{f g:Nat}(h:btB f=g):Calls Try.prog 13 #[.float .f64 f] w (Gv w (Is (.int .u64 ((g:Nat):Int)))):=by subst h;exact g_bits7
theorem more_ok {x n:Nat}{l:List Nat}(hx:x<18446744073709551616) (hf:fin x) (hw:∀y∈l,y<18446744073709551616) (ha:allF l=true):
  (∀y∈([x]++l)++ [x^^^9223372036854775808],y<18446744073709551616)∧allF (([x]++l)++ [x^^^9223372036854775808])=true∧sumF (([x]++l)++ [x^^^9223372036854775808])=sumF l:=by
 obtain⟨h1,h2,h3⟩:=neg_fin hx hf
 rw [allF_mem] at ha
 refine⟨fun y hy=>?_,allF_mem.2 fun y hy=>?_,?_⟩
 ·simp at hy
  rcases hy with h | h | h
  ·rw [h];exact hx
  ·exact hw y h
  ·rw [h];exact h2
 ·simp at hy
  rcases hy with h | h | h
  ·rw [h];exact hf
  ·exact ha y h
  ·rw [h];exact h1
 ·unfold sumF
  simp [h3]
  omega
def nrL (zs:List Int):List Nat:=zs.map nrB
theorem nr_small {z:Int}(h:z.natAbs≤9007199254740992):nrB z<18446744073709551616∧fin (nrB z)∧fv (nrB z)=z*((2^e74:Nat):Int):=by
 have hl:z.natAbs<2^e24-2^e70:=by
  have e1:(2:Nat)^e24=18014398509481984*2^e70:=by
   have h:e24=54+e70:=by rw [e24_eq,e70_eq]
   rw [h,Nat.pow_add]
  rw [e1]
  have:=Nat.two_pow_pos e70
  omega
 obtain⟨r,q,hr⟩:=nr_facts (f:=nrB z) rfl hl
 refine⟨hr.b64,hr.fn,?_⟩
 rw [hr.fvw,hr.wh,hr.ex h]
 by_cases hz:z<0
 ·rw [decide_eq_true hz,sg_true];congr 1;omega
 ·rw [decide_eq_false hz,sg_false];congr 1;omega
theorem nrL_ok {zs:List Int}(h:∀i,i<zs.length→(zs.getD i 0).natAbs≤9007199254740992):(∀y∈nrL zs,y<18446744073709551616)∧allF (nrL zs)=true∧sumF (nrL zs)=zs.sum*((2^e74:Nat):Int):=by
 have hm:∀z∈zs,z.natAbs≤9007199254740992:=by
  intro z hz
  obtain⟨i,hi,rfl⟩:=List.getElem_of_mem hz
  have:=h i hi
  rwa [List.getD_eq_getElem?_getD,List.getElem?_eq_getElem hi] at this
 clear h
 refine⟨fun y hy=>?_,allF_mem.2 fun y hy=>?_,?_⟩
 ·obtain⟨z,hz,rfl⟩:=List.mem_map.1 hy;exact (nr_small (hm z hz)).1
 ·obtain⟨z,hz,rfl⟩:=List.mem_map.1 hy;exact (nr_small (hm z hz)).2.1
 ·induction zs with
  | nil=>simp [nrL,sumF]
  | cons z r ih=>
   have h1:=ih (fun x hx=>hm x (List.mem_cons_of_mem _ hx))
   have h2:=(nr_small (hm z List.mem_cons_self)).2.2
   simp only [nrL,sumF,List.map_cons,List.sum_cons] at h1⊢
   rw [h1,h2,Int.add_mul]
theorem tot_near (S:Int):totS (S*((2^e74:Nat):Int))=nrB S:=by
 unfold totS nrB
 have hp:(0:Int)<((2^e74:Nat):Int):=Int.natCast_pos.2 (Nat.two_pow_pos e74)
 have e:decide (S*((2^e74:Nat):Int)<0)=decide (S<0):=by
  by_cases h:S<0
  ·rw [decide_eq_true h,decide_eq_true (Int.mul_neg_of_neg_of_pos h hp)]
  ·rw [decide_eq_false h,decide_eq_false (Int.not_lt.2 (Int.mul_nonneg (by omega) (Int.le_of_lt hp)))]
 rw [e,Int.natAbs_mul,Int.natAbs_natCast]
theorem nrL_snoc {zs:List Int}{i:Nat}(h:i<zs.length):nrL (zs.take i)++ [nrB (zs.getD i 0)]=nrL (zs.take (i+1)):=by
 unfold nrL
 rw [List.take_add_one,List.map_append,List.getD_eq_getElem?_getD,List.getElem?_eq_getElem h];rfl
theorem sum_snoc7 {zs:List Int}{i:Nat}(h:i<zs.length):(zs.take i).sum+zs.getD i 0=(zs.take (i+1)).sum:=by
 rw [List.take_add_one,List.sum_append,List.getD_eq_getElem?_getD,List.getElem?_eq_getElem h];simp
theorem sum_bd7 {zs:List Int}(h:∀i,i<zs.length→(zs.getD i 0).natAbs≤2147483648):∀k,((zs.take k).sum).natAbs≤k*2147483648:=by
 intro k
 induction k with
 | zero=>simp
 | succ k ih=>
  by_cases hk:k<zs.length
  ·rw [←sum_snoc7 hk];have:=h k hk;omega
  ·rw [List.take_of_length_le (by omega)] at ih⊢;exact Nat.le_trans ih (Nat.mul_le_mul_right _ (Nat.le_succ k))
theorem ln_small7 {z:Int}(h:z.natAbs≤18446744073709551615):ln z≤1:=by
 show (wd z.natAbs).length≤1
 exact len_wd_le (k:=1) (by rw [Nat.pow_one,WB_def];exact Nat.lt_succ_of_le h)
theorem cv_i64z {z:Int}(h: -9223372036854775808≤z) (h2:z≤9223372036854775807):Value.int .i64 (IntKind.i64.wrap z)= .int .i64 z:=by rw [IntWalk.i64_in _ ⟨h,h2⟩]
theorem i32_min:IntKind.i32.min= -2147483648:=by decide
theorem i32_max:IntKind.i32.max=2147483647:=by decide
theorem i64_min7:IntKind.i64.min= -9223372036854775808:=by decide
theorem i64_max7:IntKind.i64.max=9223372036854775807:=by decide
end Go.Proofs.Ytgilhcdglaneiaa
