/- Parts Hl, Hfa, Hfb, Hfc, Hfd, Sxt, Lda, Ld1, Ld2, Ldb, Ld3, Lde, Ld4, Ldf, joined. -/
import Derived.Test.YtnpbbknemflpnaaGreatV3

namespace Go.Proofs.YtnpbbknemflpnaaGreat
open Go.RowKit
section
variable {Q:Exit→Act→World→Prop}{N:Nat}{l:Fr}{w:World}{ops:Array Oper}{rest:List Oper}{d:Nat}{ty:TypeId}{pos:String}{af:Array Edge}{gd:Option (Nat×Bool)}
theorem wl_makeH {x y:Operand}{k:Nat}(hw:guardB ops l gd=some true) (hx:evo l x=some (.int .i64 0)) (hy:evo l y=some (.int .i64 (k:Int))) (hk:k≤1099511627776) (hd:d<N)
  (h:∀g w',w.heap.size=g→Own w' g 22 1 (some ⟨g,0,none⟩) 0 k []→Ext w w'→wl Tryz.prog ops Q N rest ((d,.slice (some ⟨g,0,none⟩) 0 k)::l) w'):wl Tryz.prog ops Q N (⟨some d,.makeSlice 54 x y,ty,pos,af,gd⟩::rest) l w:=by
 obtain⟨i,hi,hz0,hz1,hz2⟩:=info_parts infoL
 have hr:=run_make (P:=Tryz.prog) w 54 22 i _ Tryz.underlying54 hi hz0 .i64 .i64 0 (k:Int) (by omega) (by omega) (by rw [hz2];omega) (by omega)
 rw [Int.toNat_natCast,show (0:Int).toNat=0 from rfl,hz1] at hr
 obtain⟨cs,hcs,hcl⟩:∃cs:List Value,madeCells (Value.slice none 0 0).cells (k*1)=cs.toArray∧cs.length=k*1:=⟨(madeCells (Value.slice none 0 0).cells (k*1)).toList,Array.toArray_toList.symm,by rw [Array.length_toList,size_madeCells]⟩
 rw [hcs] at hr
 refine wl_val hw hd (fun a' ha=>?_) (h _ (w.alloc (.cells cs.toArray 22)) rfl (Or.inr ⟨w.heap.size,cs,rfl,Nat.le_refl _,Bk.new _ _ _,Nat.zero_le _,by rw [len_maxLen];omega,hcl,rfl⟩) ((Ext.refl w).alloc _))
 have e':(Instr.makeSlice 54 (a'.eval x) (a'.eval y)).run Tryz.prog w= .ok (.slice (some ⟨w.heap.size,0,none⟩) 0 k) (w.alloc (.cells cs.toArray 22)):=by rw [ha.ev hx,ha.ev hy];exact hr
 show ((Instr.makeSlice 54 (a'.eval x) (a'.eval y)>>=fun r=>pure (Next.value r):Sem Next)).run Tryz.prog w=_
 rw [Sem.run_bind,e'];rfl
end
structure LhC (B L M gl gm:Nat) (Am:Option Addr):Prop where
 bf:B≤gl
 fm:gm≠gl
 fM:gl<M
 fL:gl<L
 mL:gm<L
 am:∀p,Am=some p→p.block<L
 BL:B≤L
structure LhS (w0:World) (n cc K L M gm:Nat) (Am:Option Addr) (capm:Nat) (xs:List Int) (W:World):Prop where
 ext:Ext w0 W
 sz:L≤W.heap.size
 m:Bk W gm 24 [.int .i64 (n:Int),.int .i64 (cc:Int),.slice Am (n*cc) capm]
 l:Lz none K 0 W M Am (n*cc) capm xs
section
variable {w0:World}{n cc K L M gl gm lr:Nat}{Am:Option Addr}{capm:Nat}{xs:List Int}{W W':World}
theorem LhS.ex (s:LhS w0 n cc K L M gm Am capm xs W) (e:Ext W W'):LhS w0 n cc K L M gm Am capm xs W':=⟨s.ext.trans e,Nat.le_trans s.sz e.size,s.m.ext e,s.l.ext e⟩
theorem LhS.nc (s:LhS w0 n cc K L M gm Am capm xs W) (c:Nc W W') (b:Below L W W') (hB:w0.heap.size≤L):LhS w0 n cc K L M gm Am capm xs W':=⟨⟨s.ext.below.trans (b.mono hB)⟩,Nat.le_trans s.sz c.size,s.m.nc c,s.l.nc c⟩
theorem LhS.updR {A:Option Addr}{T:TypeId}{k c:Nat}{us:List Value}(s:LhS w0 n cc K L M gm Am capm xs W) (hr:w0.heap.size≤lr) (ho:Own W lr T 1 A k c us) (hgm:∀p,A=some p→p.block≠gm) (ham:∀p q,A=some p→Am=some q→p.block≠q.block) (u:UpdO A W W') (hT:45≠T:=by decide):LhS w0 n cc K L M gm Am capm xs W':=
 ⟨u.ext s.ext (fun p hp=>Nat.le_trans hr (ho.block p hp).1),Nat.le_trans s.sz u.size,s.m.updO u hgm,s.l.updQ ho u ham hT⟩
theorem LhS.updF {us:List Value}(s:LhS w0 n cc K L M gm Am capm xs W) (C:LhC w0.heap.size L M gl gm Am) (hb:Bk W gl 54 us) (u:Upd gl W W'):LhS w0 n cc K L M gm Am capm xs W':=
 ⟨u.ext s.ext C.bf,Nat.le_trans s.sz u.size,s.m.updN u C.fm,s.l.updT hb u (fun p hp e=>by have:=(s.l.block p hp).1;have:=C.fM;omega)⟩
end
structure LhM (cc L lr gl gm:Nat) (Am:Option Addr) (X:Mx) (k b:Nat) (RA:Option Addr) (rcap:Nat) (ra:Nat→Option Addr) (rc:Nat→Nat) (W:World):Prop where
 f:Bk W gl 54 [.slice RA k rcap]
 R:Own W lr 22 1 RA k rcap ((List.range k).map (rwv ra rc cc))
 C:Rcs 17179869184 L k cc ra rc W X
 Rr:∀r,r<k→∀p q,RA=some p→ra r=some q→p.block≠q.block
 Rb:∀p,RA=some p→p.block<b
 rb:∀r,r<k→∀p,ra r=some p→p.block<b
 Rl:∀p,RA=some p→p.block≠gl
 Rm:∀p,RA=some p→p.block≠gm
 Ra:∀p q,RA=some p→Am=some q→p.block≠q.block
def LhI (w0:World) (n cc K L M lr gl gm:Nat) (Am:Option Addr) (capm:Nat) (xs:List Int) (X:Mx) (k b:Nat) (W:World):Prop:=
 L≤b∧LhS w0 n cc K L M gm Am capm xs W∧∃RA rcap ra rc,LhM cc L lr gl gm Am X k b RA rcap ra rc W
set_option maxHeartbeats 4000000 in
theorem g_hnf_lines {w:World}{n cc K:Nat}{Aa:Option Addr}{na capa:Nat}{xs:List Int}(hxa:ZF w Aa na capa K xs) (hn:n≤64) (hcc:cc≤64) (hna:na=n*cc){X:Mx}(hX:En n cc X xs) (hKB:K≤17179869184):
  Calls Tryz.prog 31 #[.agg #[.int .i64 ((n:Nat):Int),.int .i64 ((cc:Nat):Int),.slice Aa na capa]] w (Gv w (fun v w'=>∃RA rcap ra rc,v= .slice RA n rcap∧Ap2 n RA ra∧Lns w.heap.size n cc RA rcap ra rc (List.range n) X w')):=by
 have hlb:w.heap.size≤w.heap.size:=Nat.le_refl _
 have hxa0:=hxa
 obtain⟨msa,hla,hma⟩:=hxa
 refine sx_enterM Tryz.func31 rfl (n:=18) rfl (bq rfl) (args:= [.agg #[.int .i64 ((n:Nat):Int),.int .i64 ((cc:Nat):Int),.slice Aa na capa]]) (cw_keep [(0,.agg #[.int .i64 ((n:Nat):Int),.int .i64 ((cc:Nat):Int),.slice Aa na capa])] ⟨rfl,trivial⟩ (sr (bx [.int .i64 ((n:Nat):Int),.int .i64 ((cc:Nat):Int),.slice Aa na capa] (Ext.refl w) rfl rfl rfl fun g1 v2 hb4 ge5 e3 hw1=>(mv 1 rfl (ne_ (sr (pf g1 0 rfl (by kernel_rfl) (wl_load rfl rfl (load_cell cellInt hb4 rfl) (by decide) (wl_makeH rfl rfl rfl (by omega) (by decide) fun g6 v7 hg8 ow9 e10=>?_)))))))))
 have hgeg6:w.heap.size≤g6:=by rw [←hg8];exact hw1.size
 have hqg1g6:g1<g6:=by rw [←hg8];exact hb4.lt
 clear hg8
 have hw2:=hw1.trans e10
 have hrlg6:=(ow9.block _ rfl).2
 refine wl_alloc rfl (z:= .slice none 0 0) (vs:= [S0]) (fun _=>by kernel_rfl) rfl (by decide) fun g11 v12 nb=>?_
 have hrgg11:g6<g11:=by rw [←nb.at_];exact hrlg6
 have hb14:=nb.bk
 have ge15:w.heap.size≤g11:=by rw [←nb.at_];exact hw2.size
 have q16:g1<g11:=by rw [←nb.at_];exact (hb4.ext e10).lt
 have e13:=nb.ext
 clear nb
 have hw3:=hw2.trans e13
 refine wl_stored1 rfl rfl rfl szRows rfl hb14 (bq rfl) rfl [.slice (some ⟨g6,0,none⟩) 0 n] rfl fun v17 hb19 u20 hs21=>?_
 have hw4:=u20.ext hw3 ge15
 refine ne_ (cw_seq (sr (lo aggMat ((hb4.ext (e10.trans e13)).updN u20 (by omega)) [.int .i64 ((n:Nat):Int),.int .i64 ((cc:Nat):Int),.slice Aa na capa] rfl rfl rfl ?_)))
 have hb_gl0:=hb19
 refine cl (vs:= [.agg #[.int .i64 ((n:Nat):Int),.int .i64 ((cc:Nat):Int),.slice Aa na capa]]) hw4 (g_mat_Lines (hxa0.ext hw4) hn hcc hna hKB) rfl (by kernel_rfl) fun xr24 v22 r24 e23 hw5=>?_
 obtain⟨gm,Am,capm,rfl,hgm,hbm,hzm⟩:=r24
 refine ne_ (cw_block ?_)
 have hf1:=(hb19.ext e23)
 have hr1:=((((ow9.ext e13).upd u20 (fun a ha=>by have e9:=congrArg Addr.block (Option.some.inj ha);simp only at e9;omega)).ext e23)).mono (base':=w.heap.size) (by omega)
 have hgl:g11<v17.heap.size:=(by have:=hb_gl0.lt;omega)
 have C:LhC w.heap.size v22.heap.size v17.heap.size g11 gm Am:=⟨by omega,by omega,hgl,hf1.lt,hbm.lt,fun p hp=>(hzm.block p hp).2,hw5.size⟩
 have S0:LhS w n cc K v22.heap.size v17.heap.size gm Am capm xs v22:=⟨hw5,Nat.le_refl _,by rw [←hna];exact hbm,by rw [←hna];exact hzm⟩
 refine cw_keep [(3,.pointer (some ⟨g11,0,none⟩)),(10,.func (.func 64) #[] #[.pointer (some ⟨gm,0,none⟩)])] ⟨rfl,rfl,trivial⟩ ?_
 refine cw_lines (A:=Am) (cap:=capm) (gm:=gm) (xs:=xs) (X:=X) (K:=K) (r:=n) (c:=cc) (p0:=11) (p1:=12) rfl rfl (by decide) (by decide) hn hcc hKB hX (LhI w n cc K v22.heap.size v17.heap.size w.heap.size g11 gm Am capm xs X) ?_ ?_ ?_ ?_ ?_
  (fun v0 v1=>(5,v1)::(12,v1)::(11,v0):: [(3,.pointer (some ⟨g11,0,none⟩)),(10,.func (.func 64) #[] #[.pointer (some ⟨gm,0,none⟩)])]) ?_ ?_ ?_
 ·rintro k b W ⟨_,S,_⟩
  exact⟨S.m,S.l.zf0⟩
 ·rintro k b V W ⟨hb,S,RA,rcap,ra,rc,R⟩ x
  exact⟨hb,S.ex x,RA,rcap,ra,rc,R.f.ext x,R.R.ext x,R.C.ext x,R.Rr,R.Rb,R.rb,R.Rl,R.Rm,R.Ra⟩
 ·rintro k b W ⟨hb,S,RA,rcap,ra,rc,R⟩
  exact⟨S.sz,S,RA,rcap,ra,rc,R.f,R.R,R.C,R.Rr,fun p hp=>(R.R.block p hp).2,fun r hr p hp=>(R.C.lt r hr p hp).2,R.Rl,R.Rm,R.Ra⟩
 ·rintro k b V W ⟨hb,S,RA,rcap,ra,rc,R⟩ x hbl
  exact⟨hb,S.nc x hbl C.BL,RA,rcap,ra,rc,R.f.nc x,R.R.nc x,R.C.nc x,R.Rr,R.Rb,R.rb,R.Rl,R.Rm,R.Ra⟩
 ·exact⟨Nat.le_refl _,S0,some ⟨g6,0,none⟩,n,fun _=>none,fun _=>0,hf1,hr1,⟨fun r hr=>(by omega),fun r s hr=>(by omega)⟩,fun r hr=>(by omega),fun p hp=>(hr1.block p hp).2,fun r hr=>(by omega),fun p hp=>(by have e9:=congrArg Addr.block (Option.some.inj hp);simp only at e9;omega),fun p hp=>(by have e9:=congrArg Addr.block (Option.some.inj hp);simp only at e9;omega),fun p q hp hq=>(by have e9:=congrArg Addr.block (Option.some.inj hp);simp only at e9;have:=(hzm.block q hq).1;omega)⟩
 ·intro lp v0 v1 Kp W hk
  refine ci_region (Wd.round _ _ _) (then_lets (fun⟨_,_,h⟩=>h)) rfl (mv 1 rfl (wl_nil ?_))
  exact hk
 ·rintro lp k b W LA lc zs Q9 hk ⟨hLb,S,RA,rcap,ra,rc,R⟩ hb hz hze hNL hQ
  refine ci_block (ci_region (Wd.round _ _ _) (block_lets hNL) rfl (wl_load rfl rfl (load_cell cellRows R.f rfl) (by decide) (mv 1 rfl (wl_bslice rfl rfl (by decide) (k:=1) (e:=22) [.slice LA cc lc] (fun _=>by kernel_rfl) fun g w1 nb=>?_))))
  have e1:=nb.ext
  have ho:=R.R.ext e1
  have hlr:w.heap.size≤w1.heap.size:=Nat.le_trans C.BL (Nat.le_trans S.sz e1.size)
  refine wl_appC (z:= .slice none 0 0) (s:=1) (bytes:=24) (e:=22) rfl rfl rfl Tryz.underlying54 infoL rfl (by decide) (by decide) ho hlr [.slice LA cc lc] rfl (one_news3 _ nb.bk) rfl (by omega) (by decide) fun A1 c1 w2 ho1 hc1=>?_
  have hu:UpdO RA w1 w2:=hc1.elim (fun h=>h.2.2) (fun h=>UO.ext (UO.refl _ _) h.1)
  have hf2:=(R.f.ext e1).updO hu R.Rl
  refine wl_stored1 rfl rfl rfl szRows rfl hf2 (bq rfl) rfl [.slice A1 (k+1) c1] rfl fun w3 hf3 u3 hs3=>(wl_nil (eo_block_normal ?_))
  have S3:=((S.ex e1).updR (Nat.le_refl _) ho R.Rm R.Ra hu).updF C hf2 u3
  have hz3:=((hz.ext e1).updQ ho hu (fun p q hp hq e=>by have:=R.Rb p hp;have:=(hz.block q hq).1;omega)).updT hf2 u3 (fun p hp e=>by have:=(hz.block p hp).1;have:=C.fL;omega)
  have hc1':(A1=RA∧c1=rcap)∨∀p,A1=some p→W.heap.size≤p.block:=hc1.imp (fun h=>⟨h.1,h.2.1⟩) (fun h p hp=>Nat.le_trans e1.size (h.2 p hp))
  have hl1:∀p,A1=some p→p.block≠g11:=ApR.kept hc1' R.f.lt R.Rl
  have hm1:∀p,A1=some p→p.block≠gm:=ApR.kept hc1' S.m.lt R.Rm
  have hR3:=ho1.updT hf2 (by decide) u3
  have hC3:=((R.C.ext e1).updQ ho hu R.Rr).updT hf2 u3 (fun r hr p hp e=>by have:=(R.C.lt r hr p hp).1;have:=C.fL;omega)
  rw [rows_succ] at hR3
  refine fun a ha=>hQ _ _ (e1.kf.trans ((hu.kf ho).trans (u3.kf hf2))) ⟨S3.sz,S3,_,_,_,_,hf3,hR3,⟨fun r hr=>?_,fun r s hr hs hrs p q hp hq=>?_⟩,fun r hr p q hp hq=>?_,fun p hp=>(hR3.block p hp).2,fun r hr p hp=>?_,hl1,hm1,fun p q hp hq=>?_⟩
  ·by_cases e:r=k
   ·subst e
    simp only
    exact⟨zs,hz3.mono hKB (Nat.le_refl _) hLb,hze⟩
   ·simp only [if_neg e]
    exact hC3.row r (by omega)
  ·split at hp
   ·split at hq
    ·omega
    ·have:=(hz.block p hp).1;have:=R.rb s (by omega) q hq;omega
   ·split at hq
    ·have:=(hz.block q hq).1;have:=R.rb r (by omega) p hp;omega
    ·exact R.C.dis r s (by omega) (by omega) hrs p q hp hq
  ·rcases hc1' with⟨rfl,rfl⟩ | h
   ·split at hq
    ·have:=R.Rb p hp;have:=(hz.block q hq).1;omega
    ·exact R.Rr r (by omega) p q hp hq
   ·split at hq
    ·have:=h p hp;have:=(hz.block q hq).2;omega
    ·have:=h p hp;have:=(R.C.lt r (by omega) q hq).2;omega
  ·split at hp
   ·exact (hz3.block p hp).2
   ·exact (hC3.lt r (by omega) p hp).2
  ·rcases hc1' with⟨rfl,rfl⟩ | h
   ·exact R.Ra p q hp hq
   ·have:=h p hp;have:=C.am q hq;have:=S.sz;omega
 ·rintro D b W hD ⟨hb,S,RA,rcap,ra,rc,R⟩ hK a ha
  have hm:w.heap.size≤v22.heap.size:=C.BL
  have hnc:=Nc.put (.deferred none) hK rfl
  have hbl:=below_put hD W (Array.getElem?_eq_some_iff.1 hK).1 (.deferred none)
  have S9:=S.nc hnc hbl hm
  have R9:=R.R.nc hnc
  have C9:=(R.C.nc hnc).low hm
  show Code.wp _ (Code.seq _ _) _ _ _
  refine wp_seq ((wpIn_wide (n:=9)).1 (wpIn_region_lit ?_))
  have ea:({a with defers:= [{target:= .collected D,args:= #[]}]}:Act)=dfd [{target:= .collected D,args:= #[]}] a:=by
   unfold dfd;rw [ha.nod];rfl
  rw [ea]
  refine list_df _ _ _ _ (wlW_wl (n:=18) (l:= [(3,.pointer (some ⟨g11,0,none⟩)),(10,.func (.func 64) #[] #[.pointer (some ⟨gm,0,none⟩)])]) ?_ rfl ?_ a ha)
  ·rintro⟨_,_,h⟩
   obtain⟨_,h,_⟩:=h
   cases h
  refine wl_load rfl rfl (load_cell cellRows R.f rfl) (by decide) (mv 1 rfl (wl_nil ?_))
  intro a2 ha2
  show Code.wp _ .ret _ _ _
  refine wp_ret ?_
  show LeavesInM _ _ _ _ _ _ (a2.defers++ [{target:= .collected D,args:= #[]}]) _ _
  rw [ha2.nod]
  show LeavesInM _ _ _ _ _ _ [{target:= .collected D,args:= #[]}] _ _
  unfold LeavesInM LeavesInM
  refine⟨by simp,.inl ⟨_,_,rfl,run_takeDeferred hK,_,results_tmp rfl _ _ _,?_⟩⟩
  refine⟨_,congrArg _ (ha2.val 2 _ rfl),?_,S9.ext⟩
  exact⟨RA,rcap,ra,rc,rfl,⟨R.Rr⟩,R9,C9,(Inv.start (n:=n) (X:=X) (Z:=X) (fun _ _ _ _=>rfl)).per⟩
set_option maxHeartbeats 4000000 in
theorem g_hnf_matrix {w:World}{b lb lr n cc:Nat}(hb:b≤w.heap.size) (hlb:lb≤w.heap.size){RA:Option Addr}{rcap:Nat}{ra:Nat→Option Addr}{rc:Nat→Nat}{ps:List Nat}{Z:Mx}(hL:Lns lr n cc RA rcap ra rc ps Z w) (hn:n≤64) (hcc:cc≤64) (hZ:∀a b,a<n→b<cc→ln (pr Z ps a b)≤17179869184):
    Calls Tryz.prog 32 #[.slice RA n rcap,.int .i64 ((cc:Nat):Int)] w (Gv w (MQ (n:Int) (cc:Int) (LQ none 17179869184 b lb (n*cc) (En n cc (pr Z ps))))):=by
 have hrc:=ix_64 hn hcc
 have hcap:=hL.R.rv.le
 refine sx_enter Tryz.func32 rfl (n:=41) rfl (bq rfl) (args:= [.slice RA n rcap,.int .i64 ((cc:Nat):Int)]) (cw_keep [(0,.slice RA n rcap),(1,.int .i64 ((cc:Nat):Int))] ⟨rfl,rfl,trivial⟩ (sr (al [I0,I0,S0] (Ext.refl w) (fun _=>by kernel_rfl) rfl fun g1 v2 hb4 ge5 e3 hw1=>(ne_ (sr (mv 1 rfl (pu (v:= .int .i64 ((n:Nat):Int)) rfl (by kernel_rfl) (mv 2 rfl (pu (v:= .int .i64 ((n:Nat):Int)) rfl (by kernel_rfl) (mv 1 rfl (wl_ar rfl rfl rfl ((n*cc:Nat):Int) (ai_mul (a:=n) (b:=cc) rfl rfl (by omega)) (by decide) (wl_makeI (k:=n*cc) none 17179869184 w.heap.size rfl rfl rfl (by omega) (by decide) fun g6 v7 hg8 lz9 e10=>?_))))))))))))
 have q11:g1<g6:=by rw [←hg8];exact hb4.lt
 have hlbg6:g6≤v7.heap.size:=by have:=(lz9.block _ rfl).2;exact Nat.le_of_lt this
 have hglg6:w.heap.size≤g6:=by rw [←hg8];exact hw1.size
 clear hg8
 have hw2:=hw1.trans e10
 have blk12:=lz9.block
 refine pu (v:= .agg #[.int .i64 ((n:Nat):Int),.int .i64 ((cc:Nat):Int),.slice (some ⟨g6,0,none⟩) 0 (n*cc)]) rfl (by kernel_rfl) (wl_alloc rfl (z:= .agg #[I0,I0,S0]) (vs:= [I0,I0,S0]) (fun _=>by kernel_rfl) rfl (by decide) fun g13 v14 nb=>?_)
 have hb16:=nb.bk
 have ge17:w.heap.size≤g13:=by rw [←nb.at_];exact hw2.size
 have q18:g1<g13:=by rw [←nb.at_];exact (hb4.ext e10).lt
 have ne19:∀p:Addr,(some ⟨g6,0,none⟩)=some p→p.block≠g13:=fun p hp=>by have:=(lz9).block p hp;have:=nb.at_;omega
 have e15:=nb.ext
 clear nb
 have hw3:=hw2.trans e15
 refine so aggMat hb16 [.int .i64 ((n:Nat):Int),.int .i64 ((cc:Nat):Int),.slice (some ⟨g6,0,none⟩) 0 (n*cc)] hw3 ge17 rfl rfl rfl rfl fun v20 hb22 u23 hw4=>(ne_ (cw_seq (sr (mv 1 rfl (pu (v:= .int .i64 ((n:Nat):Int)) rfl (by kernel_rfl) (mv 1 rfl (ne_ (cw_block ?_))))))))
 refine cw_loop (T:=World×Nat×Nat×Option Addr×Nat×List Int) (fun⟨wr,i,q,LA,lc,zs⟩=> [(0,.slice RA n rcap),(1,.int .i64 ((cc:Nat):Int)),(4,.pointer (some ⟨g1,0,none⟩)),(5,.pointer (some ⟨g13,0,none⟩)),(10,.slice RA n rcap),(11,.int .i64 ((n:Nat):Int)),(12,.int .i64 ((cc:Nat):Int)),(13,.slice RA n rcap),(14,.int .i64 ((n:Nat):Int)),(15,.int .i64 ((cc:Nat):Int)),(16,.int .i64 ((n*cc:Nat):Int)),(17,.slice (some ⟨g6,0,none⟩) 0 (n*cc)),(18,.agg #[.int .i64 ((n:Nat):Int),.int .i64 ((cc:Nat):Int),.slice (some ⟨g6,0,none⟩) 0 (n*cc)]),(19,.slice RA n rcap),(20,.int .i64 ((n:Nat):Int)),(21,.int .i64 ((i:Nat):Int))]) (fun⟨wr,i,q,LA,lc,zs⟩=>wr) (fun⟨wr,i,q,LA,lc,zs⟩=>(Ext w wr)∧(i≤n)∧(Bk wr g1 24 [I0,I0,S0])∧(Bk wr g13 24 [.int .i64 ((n:Nat):Int),.int .i64 ((cc:Nat):Int),.slice LA q lc])∧(g6≤wr.heap.size)∧(Lz none 17179869184 w.heap.size wr g6 LA q lc zs)∧(∀p:Addr,LA=some p→p.block≠g1)∧(∀p:Addr,LA=some p→p.block≠g13)∧(q=i*cc)∧(Bld cc q (pr Z ps) zs)) (fun⟨wr,i,q,LA,lc,zs⟩=>n-i)
  (⟨v20,0,0,(some ⟨g6,0,none⟩),(n*cc),[]⟩:World×Nat×Nat×Option Addr×Nat×List Int) ⟨hw4,(by omega),((hb4.ext (e10.trans e15)).updN u23 (by omega)),hb22,(Nat.le_trans (Nat.le_trans hlbg6 e15.size) u23.by_.size),((lz9.ext e15).updT hb16 u23 ne19),(show∀p:Addr,(some ⟨g6,0,none⟩)=some p→p.block≠g1 from fun p hp=>by have:=blk12 p hp;omega),ne19,(Nat.zero_mul cc).symm,(fun k h=>absurd h (Nat.not_lt_zero k))⟩ rfl ⟨rfl,rfl,rfl,rfl,rfl,rfl,rfl,rfl,rfl,rfl,rfl,rfl,rfl,rfl,rfl,rfl,trivial⟩ ?_
 rintro⟨wr,i,q,LA,lc,zs⟩ ⟨hw1,hi_i,b_g1,b_g13,l_LAb,l_LA,l_LA_g1,l_LA_g13,hq,hz⟩
 refine cw_re [(0,.slice RA n rcap),(1,.int .i64 ((cc:Nat):Int)),(4,.pointer (some ⟨g1,0,none⟩)),(5,.pointer (some ⟨g13,0,none⟩)),(10,.slice RA n rcap),(11,.int .i64 ((n:Nat):Int)),(12,.int .i64 ((cc:Nat):Int)),(13,.slice RA n rcap),(14,.int .i64 ((n:Nat):Int)),(15,.int .i64 ((cc:Nat):Int)),(16,.int .i64 ((n*cc:Nat):Int)),(17,.slice (some ⟨g6,0,none⟩) 0 (n*cc)),(18,.agg #[.int .i64 ((n:Nat):Int),.int .i64 ((cc:Nat):Int),.slice (some ⟨g6,0,none⟩) 0 (n*cc)]),(19,.slice RA n rcap),(20,.int .i64 ((n:Nat):Int)),(21,.int .i64 ((i:Nat):Int))] wr rfl ⟨rfl,rfl,rfl,rfl,rfl,rfl,rfl,rfl,rfl,rfl,rfl,rfl,rfl,rfl,rfl,rfl,trivial⟩ ?_
 have blk25:=l_LA.block
 refine cw_seq ?_
 by_cases hir:i<n
 · 
  refine cw_region (wl_cmp rfl rfl rfl true (cb_lt_t (a:=i) (b:=n) rfl rfl (by omega)) (by decide) (ne_ (cw_seq (cw_true rfl (cw_skip (eo_then (cw_seq (cw_block (sr ?_)))))))))
  obtain⟨pz26,hpz26,hcz26⟩:=hL.R.rowAt (i:=i) (by omega)
  refine wl_idx rfl rfl rfl Tryz.underlying54 szInts i rfl (by omega) pz26 hpz26 (by decide) (wl_load rfl rfl (load_cell1 cellInts (hw1.cell hcz26)) (by decide) (mv 1 rfl (ne_ (sr (mv 1 rfl (pu (v:= .int .i64 ((cc:Nat):Int)) rfl (by kernel_rfl) (mv 1 rfl (ne_ (cw_block ?_)))))))))
  refine cw_loop (T:=World×Nat×Nat×Option Addr×Nat×List Int) (fun⟨wi,j,p,LB,ld,ys⟩=> [(0,.slice RA n rcap),(1,.int .i64 ((cc:Nat):Int)),(4,.pointer (some ⟨g1,0,none⟩)),(5,.pointer (some ⟨g13,0,none⟩)),(7,.slice (ra (ps.getD i 0)) cc (rc (ps.getD i 0))),(10,.slice RA n rcap),(11,.int .i64 ((n:Nat):Int)),(12,.int .i64 ((cc:Nat):Int)),(13,.slice RA n rcap),(14,.int .i64 ((n:Nat):Int)),(15,.int .i64 ((cc:Nat):Int)),(16,.int .i64 ((n*cc:Nat):Int)),(17,.slice (some ⟨g6,0,none⟩) 0 (n*cc)),(18,.agg #[.int .i64 ((n:Nat):Int),.int .i64 ((cc:Nat):Int),.slice (some ⟨g6,0,none⟩) 0 (n*cc)]),(19,.slice RA n rcap),(20,.int .i64 ((n:Nat):Int)),(21,.int .i64 ((i:Nat):Int)),(22,.bool true),(23,.pointer (some pz26)),(24,.slice (ra (ps.getD i 0)) cc (rc (ps.getD i 0))),(25,.slice (ra (ps.getD i 0)) cc (rc (ps.getD i 0))),(26,.int .i64 ((cc:Nat):Int)),(27,.int .i64 ((j:Nat):Int))]) (fun⟨wi,j,p,LB,ld,ys⟩=>wi) (fun⟨wi,j,p,LB,ld,ys⟩=>(Ext w wi)∧(j≤cc)∧(Bk wi g1 24 [I0,I0,S0])∧(Bk wi g13 24 [.int .i64 ((n:Nat):Int),.int .i64 ((cc:Nat):Int),.slice LB p ld])∧(g6≤wi.heap.size)∧(Lz none 17179869184 w.heap.size wi g6 LB p ld ys)∧(∀p:Addr,LB=some p→p.block≠g1)∧(∀p:Addr,LB=some p→p.block≠g13)∧(p=i*cc+j)∧(Bld cc p (pr Z ps) ys)) (fun⟨wi,j,p,LB,ld,ys⟩=>cc-j)
   (⟨wr,0,q,LA,lc,zs⟩:World×Nat×Nat×Option Addr×Nat×List Int) ⟨hw1,(by omega),b_g1,b_g13,l_LAb,l_LA,l_LA_g1,l_LA_g13,(by omega),hz⟩ rfl ⟨rfl,rfl,rfl,rfl,rfl,rfl,rfl,rfl,rfl,rfl,rfl,rfl,rfl,rfl,rfl,rfl,rfl,rfl,rfl,rfl,rfl,rfl,rfl,trivial⟩ ?_
  rintro⟨wi,j,p,LB,ld,ys⟩ ⟨hw1,hi_j,b_g1,b_g13,l_LBb,l_LB,l_LB_g1,l_LB_g13,hq_,hz_⟩
  refine cw_re [(0,.slice RA n rcap),(1,.int .i64 ((cc:Nat):Int)),(4,.pointer (some ⟨g1,0,none⟩)),(5,.pointer (some ⟨g13,0,none⟩)),(7,.slice (ra (ps.getD i 0)) cc (rc (ps.getD i 0))),(10,.slice RA n rcap),(11,.int .i64 ((n:Nat):Int)),(12,.int .i64 ((cc:Nat):Int)),(13,.slice RA n rcap),(14,.int .i64 ((n:Nat):Int)),(15,.int .i64 ((cc:Nat):Int)),(16,.int .i64 ((n*cc:Nat):Int)),(17,.slice (some ⟨g6,0,none⟩) 0 (n*cc)),(18,.agg #[.int .i64 ((n:Nat):Int),.int .i64 ((cc:Nat):Int),.slice (some ⟨g6,0,none⟩) 0 (n*cc)]),(19,.slice RA n rcap),(20,.int .i64 ((n:Nat):Int)),(21,.int .i64 ((i:Nat):Int)),(22,.bool true),(23,.pointer (some pz26)),(24,.slice (ra (ps.getD i 0)) cc (rc (ps.getD i 0))),(25,.slice (ra (ps.getD i 0)) cc (rc (ps.getD i 0))),(26,.int .i64 ((cc:Nat):Int)),(27,.int .i64 ((j:Nat):Int))] wi rfl ⟨rfl,rfl,rfl,rfl,rfl,rfl,rfl,rfl,rfl,rfl,rfl,rfl,rfl,rfl,rfl,rfl,rfl,rfl,rfl,rfl,rfl,rfl,rfl,trivial⟩ ?_
  have blk27:=l_LB.block
  refine cw_seq ?_
  have hic:=ix_64 (show i≤64 by omega) hcc
  by_cases hjc:j<cc
  · 
   refine cw_region (wl_cmp rfl rfl rfl true (cb_lt_t (a:=j) (b:=cc) rfl rfl (by omega)) (by decide) (ne_ (cw_seq (cw_true rfl (cw_skip (eo_then (cw_seq (cw_block (sr ?_)))))))))
   obtain⟨pz28,sz28,Bz28,nz28,cz28,hpz28,ldz28,hKz28,zz28⟩:=hL.C.at (hL.per.lt i (by omega)) (show j<cc by omega)
   refine wl_idx rfl rfl rfl elemI aggInt.size j rfl (by omega) pz28 hpz28 (by decide) (wl_load rfl rfl (ldz28 _ hw1 _ _ aggInt) (by decide) (wl_alloc rfl (z:= .agg #[F0,S0]) (vs:= [F0,S0]) (fun _=>by kernel_rfl) rfl (by decide) fun g29 v30 nb=>?_))
   have hb32:=nb.bk
   have ge33:w.heap.size≤g29:=by rw [←nb.at_];exact hw1.size
   have q34:g13<g29:=by rw [←nb.at_];exact b_g13.lt
   have ne35:∀p:Addr,LB=some p→p.block≠g29:=fun p hp=>by have:=(l_LB).block p hp;have:=nb.at_;omega
   have e31:=nb.ext
   clear nb
   have hw2:=hw1.trans e31
   refine so aggInt hb32 [.bool sz28,.slice Bz28 nz28 cz28] hw2 ge33 rfl rfl rfl rfl fun v36 hb38 u39 hw3=>(ne_ ?_)
   refine cw_draw mix 5 [] [Is (.pointer (some ⟨g13,2,none⟩)),Is (.slice LB p ld),Is (.agg #[.bool sz28,.slice Bz28 nz28 cz28]),ZR w.heap.size ((pr Z ps i j)),B1 w.heap.size (pr Z ps i j)] [[],[0],[],[2],[3]] [[],[0],[],[2],[2,3],[0,1,2,3,4],[0,1,2,3,4,5],[0,1,2,3,4,5,6]] rfl
    (obs_cons rfl rfl (hob rfl rfl ?_) (obs_cons rfl rfl (hob rfl rfl ?_) (obs_cons rfl rfl (hob rfl rfl ?_) (obs_cons rfl rfl (hob rfl rfl ?_) (obs_cons rfl rfl (hob rfl rfl ?_) obs_nil))))) ?_
   · 
    exact fun _ _=>deps_nil (pf g13 2 rfl (by kernel_rfl) (pi_done rfl (Ext.refl _) rfl))
   · 
    exact fun _ e46=>dk rfl rfl (deps_nil (wl_load rfl rfl (load_cell cellInts (((b_g13.ext e31).updN u39 (by omega)).ext e46) rfl) (by decide) (pi_done rfl (Ext.refl _) rfl)))
   · 
    exact fun _ e53=>deps_nil (lo aggInt (hb38.ext e53) [.bool sz28,.slice Bz28 nz28 cz28] rfl rfl rfl (pi_done rfl (Ext.refl _) rfl))
   · 
    intro v54 e55
    have hw4:=hw3.trans e55
    refine dk rfl rfl (deps_nil (cl (vs:= [.agg #[.bool sz28,.slice Bz28 nz28 cz28]]) hw4 (g_zint_Least hw4.size (((zz28.ext (hw1.trans e31)).updT hb32 u39).ext e55).zi (zz28.le (Nat.le_trans (hZ i j (by omega) (by omega)) (by decide)))) rfl (by kernel_rfl) fun xr63 v61 r63 e62 hw5=>?_))
    obtain⟨s64,A64,n64,c64,rfl,z64⟩:=r63
    exact pi_done rfl e62 ⟨_,_,_,_,rfl,z64⟩
   · 
    intro v65 e66
    have hw4:=hw3.trans e66
    refine deps_cons rfl rfl fun x67 y68 h69 e70 f71=>?_
    obtain⟨s72,A72,n72,c72,rfl,z72⟩:=h69
    have z72:=z72.ext f71
    refine deps_nil (wl_bslice rfl rfl (by decide) (k:=1) (e:=41) [.bool s72,.slice A72 n72 c72] (fun _=>by kernel_rfl) fun g73 v74 nb=>?_)
    have hb76:=nb.bk
    have ge77:w.heap.size≤g73:=by rw [←nb.at_];exact hw4.size
    have q78:g29<g73:=by rw [←nb.at_];exact (hb38.ext e66).lt
    have ne79:∀p:Addr,LB=some p→p.block≠g73:=fun p hp=>by have:=((((l_LB.ext e31).updT hb32 u39 ne35).ext e66)).block p hp;have:=nb.at_;omega
    have e75:=nb.ext
    clear nb
    have hw5:=hw4.trans e75
    exact pi_done rfl e75 ⟨_,_,_,_,_,rfl,hb76,(z72.ext e75)⟩
   · 
    intro v80 e81
    have hw4:=hw3.trans e81
    refine dk rfl rfl (dk rfl rfl (dk rfl rfl (deps_cons rfl rfl fun x97 y98 h99 e100 f101=>?_)))
    obtain⟨s102,A102,n102,c102,rfl,z102⟩:=h99
    have z102:=z102.ext f101
    refine deps_cons rfl rfl fun x103 y104 h105 e106 f107=>?_
    obtain⟨gb108,s108,A108,n108,c108,rfl,hbs108,z108⟩:=h105
    have hbs108:=hbs108.ext f107
    have z108:=z108.ext f107
    refine deps_nil ?_
    have lt114:=(((l_LB.ext e31).updT hb32 u39 ne35).ext e81)
    obtain⟨us112,own113⟩:=lt114.own
    refine wl_appI (e:=⟨s108,A108,n108,c108⟩) (z:=(pr Z ps i j)) rfl rfl rfl lt114 (Nat.le_trans (Nat.le_trans (Nat.le_trans l_LBb e31.size) u39.by_.size) e81.size) hbs108 (Or.inl z108) (z108.le (Nat.le_trans (hZ i j (by omega) (by omega)) (by decide))) (by omega) (by decide) fun A115 c116 v109 lz110 uo111 kp117=>?_
    have hw5:=uo111.ext hw4 (fun p hp=>by have:=blk27 p hp;omega)
    have hlblz110:g6≤v109.heap.size:=Nat.le_trans (Nat.le_trans (Nat.le_trans (Nat.le_trans l_LBb e31.size) u39.by_.size) e81.size) uo111.size
    have ne118:=kept_ne kp117 (((b_g1.ext e31).updN u39 (by omega)).ext e81).lt l_LB_g1
    have ne119:=kept_ne kp117 (((b_g13.ext e31).updN u39 (by omega)).ext e81).lt l_LB_g13
    have ne120:=kept_ne kp117 (hb38.ext e81).lt ne35
    have blk121:=lz110.block
    refine pf g13 2 rfl (by kernel_rfl) ?_
    have hb123:=((((b_g13.ext e31).updN u39 (by omega)).ext e81).updO uo111 l_LB_g13)
    refine wl_stored1 rfl rfl rfl szInts rfl hb123 (bq rfl) rfl [.int .i64 ((n:Nat):Int),.int .i64 ((cc:Nat):Int),.slice A115 (p+1) c116] rfl fun v122 hb124 u125 hs126=>?_
    have hw6:=u125.ext hw5 ge17
    refine wl_nil (eo_np (eo_block_normal (eo_then (cw_region (wl_ar rfl rfl rfl ((j+1:Nat):Int) (ai_add (a:=j) (b:=1) rfl rfl (by omega)) (by decide) (mv 1 rfl (wl_nil (eo_round (⟨v122,j+1,p+1,A115,c116,ys++ [(pr Z ps i j)]⟩:World×Nat×Nat×Option Addr×Nat×List Int) ⟨hw6,(by omega),(((((b_g1.ext e31).updN u39 (by omega)).ext e81).updO uo111 l_LB_g1).updN u125 (by omega)),hb124,(Nat.le_trans hlblz110 u125.by_.size),(lz110.updT hb123 u125 ne119),ne118,ne119,(by omega),(hz_.step hq_ hjc l_LB.len)⟩ (show cc-(j+1)<cc-j by omega) rfl ⟨rfl,rfl,rfl,rfl,rfl,rfl,rfl,rfl,rfl,rfl,rfl,rfl,rfl,rfl,rfl,rfl,rfl,rfl,rfl,rfl,rfl,rfl,rfl,trivial⟩))))))))
  · 
   refine cw_region (wl_cmp rfl rfl rfl false (cb_lt_f (a:=j) (b:=cc) rfl rfl (by omega)) (by decide) (ne_ (cw_seq (cw_false rfl (cw_exit (eo_thenX (eo_loopX (eo_block_here (eo_block_normal (eo_then (cw_region (wl_ar rfl rfl rfl ((i+1:Nat):Int) (ai_add (a:=i) (b:=1) rfl rfl (by omega)) (by decide) (mv 1 rfl ?_)))))))))))))
   refine wl_nil (eo_round (⟨wi,i+1,p,LB,ld,ys⟩:World×Nat×Nat×Option Addr×Nat×List Int) ⟨hw1,(by omega),b_g1,b_g13,l_LBb,l_LB,l_LB_g1,l_LB_g13,(show p=(i+1)*cc by rw [Nat.succ_mul];omega),hz_⟩ (show n-(i+1)<n-i by omega) rfl ⟨rfl,rfl,rfl,rfl,rfl,rfl,rfl,rfl,rfl,rfl,rfl,rfl,rfl,rfl,rfl,rfl,trivial⟩)
 · 
  refine cw_region (wl_cmp rfl rfl rfl false (cb_lt_f (a:=i) (b:=n) rfl rfl (by omega)) (by decide) (ne_ (cw_seq (cw_false rfl (cw_exit (eo_thenX (eo_loopX (eo_block_here (eo_then (sr (lo aggMat b_g13 [.int .i64 ((n:Nat):Int),.int .i64 ((cc:Nat):Int),.slice LA q lc] rfl rfl rfl ?_)))))))))))
  have hb128:=b_g1
  refine so aggMat hb128 [.int .i64 ((n:Nat):Int),.int .i64 ((cc:Nat):Int),.slice LA q lc] hw1 ge5 rfl rfl rfl rfl fun v127 hb129 u130 hw2=>(ne_ (cw_ret (eo_ret [.agg #[.int .i64 ((n:Nat):Int),.int .i64 ((cc:Nat):Int),.slice LA q lc]] rfl ⟨⟨_,rfl,load_agg aggMat hb129 [.int .i64 ((n:Nat):Int),.int .i64 ((cc:Nat):Int),.slice LA q lc] rfl (bq rfl) rfl⟩,trivial⟩ ?_)))
  have hqr:q=n*cc:=by rw [hq,show i=n by omega]
  subst hqr
  exact⟨_,rfl,⟨_,rfl,_,_,_,rfl,((l_LA.updT hb128 u130 l_LA_g1)).mono (Nat.le_refl _) hb (Nat.le_trans hlb hglg6),hz.en rfl⟩,hw2⟩
end Go.Proofs.YtnpbbknemflpnaaGreat

namespace Go.Proofs.YtnpbbknemflpnaaGreat
def ldr:Nat→(Nat→Int)→Nat
 | 0,_=>0
 | c+1,f=>if ldr c f<c then ldr c f else if f c=0 then c+1 else c
theorem ldr_spec:∀(c:Nat) (f:Nat→Int),ldr c f≤c∧(∀j,j<ldr c f→f j=0)∧(ldr c f<c→f (ldr c f)≠0)
 | 0,f=>⟨Nat.le_refl _,fun j h=>absurd h (Nat.not_lt_zero j),fun h=>absurd h (Nat.lt_irrefl 0)⟩
 | c+1,f=>by
  obtain⟨h1,h2,h3⟩:=ldr_spec c f
  unfold ldr
  by_cases h:ldr c f<c
  ·rw [if_pos h];exact⟨by omega,h2,fun _=>h3 h⟩
  ·rw [if_neg h]
   have e:ldr c f=c:=by omega
   rw [e] at h2
   by_cases h0:f c=0
   ·rw [if_pos h0]
    refine⟨Nat.le_refl _,fun j hj=>?_,fun h=>absurd h (Nat.lt_irrefl _)⟩
    by_cases ej:j=c
    ·rw [ej];exact h0
    ·exact h2 j (by omega)
   ·rw [if_neg h0];exact⟨by omega,h2,fun _=>h0⟩
theorem ldr_le (c:Nat) (f:Nat→Int):ldr c f≤c:=(ldr_spec c f).1
theorem ldr_zero {c:Nat}{f:Nat→Int}{j:Nat}(h:j<ldr c f):f j=0:=(ldr_spec c f).2.1 j h
theorem ldr_ne {c:Nat}{f:Nat→Int}(h:ldr c f<c):f (ldr c f)≠0:=(ldr_spec c f).2.2 h
theorem ldr_eq {c l:Nat}{f:Nat→Int}(h:∀j,j<l→f j=0) (hl:l<c) (h0:f l≠0):ldr c f=l:=by
 rcases Nat.lt_trichotomy (ldr c f) l with h1 | h1 | h1
 ·exact absurd (h _ h1) (ldr_ne (by omega))
 ·exact h1
 ·exact absurd (ldr_zero h1) h0
theorem ldr_all {c:Nat}{f:Nat→Int}(h:∀j,j<c→f j=0):ldr c f=c:=by
 have:=ldr_le c f
 rcases Nat.lt_or_ge (ldr c f) c with h1 | h1
 ·exact absurd (h _ h1) (ldr_ne h1)
 ·omega
theorem ldr_congr {c:Nat}{f g:Nat→Int}(h:∀j,j<c→f j=g j):ldr c f=ldr c g:=by
 rcases Nat.lt_or_ge (ldr c g) c with h1 | h1
 ·exact ldr_eq (fun j hj=>by rw [h j (by omega)];exact ldr_zero hj) h1 (by rw [h _ h1];exact ldr_ne h1)
 ·have:=ldr_le c g
  rw [ldr_all (f:=f) fun j hj=>by rw [h j hj];exact ldr_zero (c:=c) (by omega)];omega
theorem ldr_low {c l:Nat}{f:Nat→Int}(h:∀j,j<l→j<c→f j=0) (hl:l≤c):l≤ldr c f:=by
 refine Nat.le_of_not_lt fun h1=>?_
 exact ldr_ne (c:=c) (f:=f) (by omega) (h _ h1 (by omega))
def Spn (n c:Nat) (Z:Mx) (v:Nat→Int):Prop:=∃x:Nat→Int,∀j,j<c→v j=sm n fun i=>x i*Z i j
section
variable {n m c:Nat}{Z Y:Mx}{u v:Nat→Int}
theorem Spn.congr (h:Spn n c Z v) (e:∀j,j<c→u j=v j):Spn n c Z u:=by
 obtain⟨x,hx⟩:=h
 exact⟨x,fun j hj=>by rw [e j hj,hx j hj]⟩
theorem Spn.row {i:Nat}(hi:i<n):Spn n c Z (Z i):=⟨fun k=>if k=i then 1 else 0,fun j _=>by
 rw [←sm_at hi (fun k=>Z k j)]
 exact sm_congr fun k _=>by
  simp only
  by_cases h:k=i
  ·rw [if_pos h,if_pos h,Int.one_mul]
  ·rw [if_neg h,if_neg h,Int.zero_mul]⟩
theorem Spn.zero:Spn n c Z fun _=>0:=⟨fun _=>0,fun j _=>by
 rw [sm_congr (g:=fun _=>0) fun i _=>Int.zero_mul _,sm_zero]⟩
theorem Spn.lin (h:Spn n c Z u) (h':Spn n c Z v) (a b:Int):Spn n c Z fun j=>a*u j+b*v j:=by
 obtain⟨x,hx⟩:=h
 obtain⟨y,hy⟩:=h'
 refine⟨fun i=>a*x i+b*y i,fun j hj=>?_⟩
 rw [sm_congr (g:=fun i=>a*(x i*Z i j)+b*(y i*Z i j)) fun i _=>by grind,sm_add,sm_mul,sm_mul,←hx j hj,←hy j hj]
theorem Spn.smul (h:Spn n c Z u) (a:Int):Spn n c Z fun j=>a*u j:=(h.lin h a 0).congr fun j _=>by omega
theorem Spn.sum {k:Nat}{x:Nat→Int}{V:Mx}(h:∀i,i<k→Spn n c Z (V i)):Spn n c Z fun j=>sm k fun i=>x i*V i j:=by
 induction k with
 | zero=>exact Spn.zero
 | succ k ih=>exact ((ih fun i hi=>h i (by omega)).lin (h k (by omega)) 1 (x k)).congr fun j _=>by simp only [sm];omega
def Sub (n m c:Nat) (Z Y:Mx):Prop:=∀i,i<n→Spn m c Y (Z i)
theorem Spn.trans (h:Spn n c Z v) (s:Sub n m c Z Y):Spn m c Y v:=by
 obtain⟨x,hx⟩:=h
 exact (Spn.sum (x:=x) s).congr hx
theorem Sub.refl (n c:Nat) (Z:Mx):Sub n n c Z Z:=fun _ hi=>Spn.row hi
theorem Sub.trans {l:Nat}{X:Mx}(h:Sub n m c Z Y) (k:Sub m l c Y X):Sub n l c Z X:=fun i hi=>(h i hi).trans k
structure Eqv (n m c:Nat) (Z Y:Mx):Prop where
 fw:Sub n m c Z Y
 fro:Sub m n c Y Z
theorem Eqv.refl (n c:Nat) (Z:Mx):Eqv n n c Z Z:=⟨Sub.refl n c Z,Sub.refl n c Z⟩
theorem Eqv.symm (h:Eqv n m c Z Y):Eqv m n c Y Z:=⟨h.fro,h.fw⟩
theorem Eqv.trans {l:Nat}{X:Mx}(h:Eqv n m c Z Y) (k:Eqv m l c Y X):Eqv n l c Z X:=⟨h.fw.trans k.fw,k.fro.trans h.fro⟩
def Qsp (n c:Nat) (Z:Mx) (v:Nat→Int):Prop:=∃s:Int,s≠0∧Spn n c Z fun j=>s*v j
theorem Spn.q (h:Spn n c Z v):Qsp n c Z v:=⟨1,by decide,h.congr fun j _=>Int.one_mul _⟩
theorem Qsp.congr (h:Qsp n c Z v) (e:∀j,j<c→u j=v j):Qsp n c Z u:=by
 obtain⟨s,h0,h1⟩:=h
 exact⟨s,h0,h1.congr fun j hj=>by rw [e j hj]⟩
theorem Qsp.lin (h:Qsp n c Z u) (h':Qsp n c Z v) (a b:Int):Qsp n c Z fun j=>a*u j+b*v j:=by
 obtain⟨s,hs,h1⟩:=h
 obtain⟨t,ht,h2⟩:=h'
 exact⟨s*t,Int.mul_ne_zero hs ht,(h1.lin h2 (t*a) (s*b)).congr fun j _=>by grind⟩
theorem Qsp.zero:Qsp n c Z fun _=>0:=Spn.zero.q
theorem Qsp.sum {k:Nat}{x:Nat→Int}{V:Mx}(h:∀i,i<k→Qsp n c Z (V i)):Qsp n c Z fun j=>sm k fun i=>x i*V i j:=by
 induction k with
 | zero=>exact Qsp.zero
 | succ k ih=>exact ((ih fun i hi=>h i (by omega)).lin (h k (by omega)) 1 (x k)).congr fun j _=>by simp only [sm];omega
theorem Qsp.of {a:Int}(h:Qsp n c Z fun j=>a*v j) (ha:a≠0):Qsp n c Z v:=by
 obtain⟨s,hs,h1⟩:=h
 exact⟨s*a,Int.mul_ne_zero hs ha,h1.congr fun j _=>by grind⟩
theorem Spn.qs (h:Spn n c Z v) (s:∀i,i<n→Qsp m c Y (Z i)):Qsp m c Y v:=by
 obtain⟨x,hx⟩:=h
 exact (Qsp.sum (x:=x) s).congr hx
theorem Qsp.trans (h:Qsp n c Z v) (s:∀i,i<n→Qsp m c Y (Z i)):Qsp m c Y v:=by
 obtain⟨a,ha,h1⟩:=h
 exact (h1.qs s).of ha
end
def adR (i j:Nat) (k:Int) (Z:Mx):Mx:=fun a=>if a=i then fun b=>Z i b+k*Z j b else Z a
def mxR (i j:Nat) (x y p q:Int) (Z:Mx):Mx:=fun a=>if a=i then fun b=>x*Z i b+y*Z j b else if a=j then fun b=>p*Z i b+q*Z j b else Z a
def tnR (i:Nat) (Z:Mx):Mx:=fun a=>if a=i then fun b=> -Z i b else Z a
def mvU (n a:Nat) (Z:Mx):Mx:=fun r=>if r=a then Z n else if a<r∧r≤n then Z (r-1) else Z r
def mvD (d e:Nat) (Z:Mx):Mx:=fun r=>if r=e then Z d else if d≤r∧r<e then Z (r+1) else Z r
def swR (i j:Nat) (Z:Mx):Mx:=fun a=>Z (if a=i then j else if a=j then i else a)
section
variable {n c i j:Nat}{Z:Mx}
theorem adR_at (i j:Nat) (k:Int) (Z:Mx) (b:Nat):adR i j k Z i b=Z i b+k*Z j b:=by simp [adR]
theorem adR_ne {i a:Nat}(j:Nat) (k:Int) (Z:Mx) (h:a≠i):adR i j k Z a=Z a:=if_neg h
theorem adR_eqv (hi:i<n) (hj:j<n) (hne:i≠j) (k:Int):Eqv n n c (adR i j k Z) Z:=by
 refine⟨fun a ha=>?_,fun a ha=>?_⟩
 ·by_cases e:a=i
  ·subst e
   exact ((Spn.row (Z:=Z) ha).lin (Spn.row hj) 1 k).congr fun b _=>by rw [adR_at];omega
  ·rw [adR_ne j k Z e];exact Spn.row ha
 ·by_cases e:a=i
  ·subst e
   refine ((Spn.row (Z:=adR a j k Z) ha).lin (Spn.row hj) 1 (-k)).congr fun b _=>?_
   rw [adR_at,adR_ne j k Z (fun h=>hne h.symm)]
   have: -k*Z j b= -(k*Z j b):=Int.neg_mul _ _
   omega
  ·have h:=Spn.row (c:=c) (Z:=adR i j k Z) ha
   rwa [adR_ne j k Z e] at h
theorem mxR_i (i j:Nat) (x y p q:Int) (Z:Mx) (b:Nat):mxR i j x y p q Z i b=x*Z i b+y*Z j b:=by simp [mxR]
theorem mxR_j {i j:Nat}(h:i≠j) (x y p q:Int) (Z:Mx) (b:Nat):mxR i j x y p q Z j b=p*Z i b+q*Z j b:=by unfold mxR;rw [if_neg (fun e=>h e.symm),if_pos rfl]
theorem mxR_ne {i j a:Nat}(x y p q:Int) (Z:Mx) (h:a≠i) (h':a≠j):mxR i j x y p q Z a=Z a:=by unfold mxR;rw [if_neg h,if_neg h']
theorem mxR_eqv (hi:i<n) (hj:j<n) (hne:i≠j){x y p q:Int}(hd:x*q-y*p=1):Eqv n n c (mxR i j x y p q Z) Z:=by
 refine⟨fun a ha=>?_,fun a ha=>?_⟩
 ·by_cases e:a=i
  ·subst e;exact ((Spn.row (Z:=Z) ha).lin (Spn.row hj) x y).congr fun b _=>mxR_i ..
  ·by_cases e2:a=j
   ·subst e2;exact ((Spn.row (Z:=Z) hi).lin (Spn.row ha) p q).congr fun b _=>mxR_j hne ..
   ·rw [mxR_ne x y p q Z e e2];exact Spn.row ha
 ·have h1:∀b:Nat,Z i b=q*(x*Z i b+y*Z j b)+ -y*(p*Z i b+q*Z j b):=fun b=>by
   have:(x*q-y*p)*Z i b=Z i b:=by rw [hd,Int.one_mul]
   grind
  have h2:∀b:Nat,Z j b= -p*(x*Z i b+y*Z j b)+x*(p*Z i b+q*Z j b):=fun b=>by
   have:(x*q-y*p)*Z j b=Z j b:=by rw [hd,Int.one_mul]
   grind
  by_cases e:a=i
  ·subst e
   exact ((Spn.row (Z:=mxR a j x y p q Z) ha).lin (Spn.row hj) q (-y)).congr fun b _=>by rw [mxR_i,mxR_j hne];exact h1 b
  ·by_cases e2:a=j
   ·subst e2
    exact ((Spn.row (Z:=mxR i a x y p q Z) hi).lin (Spn.row ha) (-p) x).congr fun b _=>by rw [mxR_i,mxR_j hne];exact h2 b
   ·have h:=Spn.row (c:=c) (Z:=mxR i j x y p q Z) ha
    rwa [mxR_ne x y p q Z e e2] at h
theorem tnR_eqv (hi:i<n):Eqv n n c (tnR i Z) Z:=by
 refine⟨fun a ha=>?_,fun a ha=>?_⟩
 ·by_cases e:a=i
  ·subst e;exact ((Spn.row (Z:=Z) ha).smul (-1)).congr fun b _=>by simp [tnR]
  ·unfold tnR;rw [if_neg e];exact Spn.row ha
 ·by_cases e:a=i
  ·subst e;exact ((Spn.row (Z:=tnR a Z) ha).smul (-1)).congr fun b _=>by simp [tnR]
  ·have h:=Spn.row (c:=c) (Z:=tnR i Z) ha
   unfold tnR at h⊢
   rwa [if_neg e] at h
theorem perm_eqv {Y:Mx}(f g:Nat→Nat) (hf:∀a,a<n→f a<n) (hg:∀a,a<n→g a<n) (h:∀a,a<n→Y a=Z (f a)) (h':∀a,a<n→Z a=Y (g a)):Eqv n n c Y Z:=
 ⟨fun a ha=>by rw [h a ha];exact Spn.row (hf a ha),fun a ha=>by rw [h' a ha];exact Spn.row (hg a ha)⟩
theorem mvU_eqv {a:Nat}(ha:a≤i) (hi:i<n):Eqv n n c (mvU i a Z) Z:=
 perm_eqv (fun r=>if r=a then i else if a<r∧r≤i then r-1 else r) (fun r=>if r=i then a else if a≤r∧r<i then r+1 else r)
  (fun r hr=>by split <;> (try split) <;> omega) (fun r hr=>by split <;> (try split) <;> omega)
  (fun r hr=>by unfold mvU;split <;> (try split) <;> rfl)
  (fun r hr=>by
   by_cases h1:r=i
   ·subst h1;rw [if_pos rfl];unfold mvU;rw [if_pos rfl]
   ·rw [if_neg h1]
    by_cases h2:a≤r∧r<i
    ·rw [if_pos h2];unfold mvU;rw [if_neg (by omega),if_pos (by omega)];rfl
    ·rw [if_neg h2];unfold mvU
     by_cases h3:r=a
     ·omega
     ·rw [if_neg h3,if_neg (by omega)])
end
structure Ech (c n:Nat) (Z:Mx):Prop where
 lt:∀i,i<n→ldr c (Z i)<c
 up:∀i k,i<k→k<n→ldr c (Z i)<ldr c (Z k)
 pos:∀i,i<n→0<Z i (ldr c (Z i))
structure Hf (c n:Nat) (Z:Mx):Prop extends Ech c n Z where
 red:∀i k,i<k→k<n→0≤Z i (ldr c (Z k))∧Z i (ldr c (Z k))<Z k (ldr c (Z k))
section
variable {c n:Nat}{Z:Mx}
theorem Ech.low (h:Ech c n Z){i k:Nat}(hik:i<k) (hk:k<n){j:Nat}(hj:j≤ldr c (Z i)):Z k j=0:=ldr_zero (c:=c) (by have:=h.up i k hik hk;omega)
theorem Ech.lead (h:Ech c n Z){x v:Nat→Int}(hv:∀j,j<c→v j=sm n fun i=>x i*Z i j){i:Nat}(hi:i<n) (h0:∀k,k<i→x k=0):
  (∀j,j<ldr c (Z i)→v j=0)∧v (ldr c (Z i))=x i*Z i (ldr c (Z i)):=by
 have hl:=h.lt i hi
 refine⟨fun j hj=>?_,?_⟩
 ·rw [hv j (by omega),←sm_zero n]
  refine sm_congr fun k hk=>?_
  rcases Nat.lt_trichotomy k i with e | e | e
  ·rw [h0 k e,Int.zero_mul]
  ·subst e;rw [ldr_zero hj,Int.mul_zero]
  ·rw [h.low e hk (by omega),Int.mul_zero]
 ·rw [hv _ hl,←sm_at hi (fun k=>x k*Z k (ldr c (Z i)))]
  refine sm_congr fun k hk=>?_
  rcases Nat.lt_trichotomy k i with e | e | e
  ·rw [if_neg (by omega),h0 k e,Int.zero_mul]
  ·rw [if_pos e]
  ·rw [if_neg (by omega),h.low e hk (Nat.le_refl _),Int.mul_zero]
theorem firstNZ (n:Nat) (x:Nat→Int):(∀k,k<n→x k=0)∨∃i,i<n∧x i≠0∧∀k,k<i→x k=0:=by
 induction n with
 | zero=>exact Or.inl fun k h=>absurd h (Nat.not_lt_zero k)
 | succ n ih=>
  rcases ih with h | ⟨i,hi,h1,h2⟩
  ·by_cases e:x n=0
   ·exact Or.inl fun k hk=>if hn:k=n then hn▸e else h k (by omega)
   ·exact Or.inr ⟨n,by omega,e,h⟩
  ·exact Or.inr ⟨i,by omega,h1,h2⟩
theorem Ech.begins (h:Ech c n Z){v:Nat→Int}(hv:Spn n c Z v):(∀j,j<c→v j=0)∨∃i y,i<n∧y≠0∧(∀j,j<ldr c (Z i)→v j=0)∧v (ldr c (Z i))=y*Z i (ldr c (Z i)):=by
 obtain⟨x,hx⟩:=hv
 rcases firstNZ n x with h0 | ⟨i,hi,h1,h2⟩
 ·refine Or.inl fun j hj=>?_
  rw [hx j hj,←sm_zero n]
  exact sm_congr fun k hk=>by rw [h0 k hk,Int.zero_mul]
 ·obtain⟨h3,h4⟩:=h.lead hx hi h2
  exact Or.inr ⟨i,x i,hi,h1,h3,h4⟩
theorem Ech.at_ (h:Ech c n Z){v:Nat→Int}(hv:Spn n c Z v) (hl:ldr c v<c):∃i y,i<n∧y≠0∧ldr c v=ldr c (Z i)∧v (ldr c v)=y*Z i (ldr c (Z i)):=by
 rcases h.begins hv with h0 | ⟨i,y,hi,hy,h1,h2⟩
 ·exact absurd (h0 _ hl) (ldr_ne hl)
 ·have hp:=h.pos i hi
  have e:ldr c v=ldr c (Z i):=ldr_eq h1 (h.lt i hi) (by rw [h2];exact Int.mul_ne_zero hy (by omega))
  exact⟨i,y,hi,hy,e,by rw [e];exact h2⟩
theorem mono_id {d:Nat}{f:Nat→Nat}(h1:∀i,i<d→f i<d) (h2:∀i k,i<k→k<d→f i<f k):∀i,i<d→f i=i:=by
 have lo:∀i,i<d→i≤f i:=by
  intro i
  induction i with
  | zero=>intro _;omega
  | succ i ih=>intro h;have:=ih (by omega);have:=h2 i (i+1) (by omega) h;omega
 have hi:∀t i,i+t+1=d→f i≤i:=by
  intro t
  induction t with
  | zero=>intro i h;have:=h1 i (by omega);omega
  | succ t ih=>intro i h;have:=ih (i+1) (by omega);have:=h2 i (i+1) (by omega) (by omega);omega
 intro i h
 have:=lo i h
 have:=hi (d-1-i) i (by omega)
 omega
theorem mono_le {d m:Nat}{f:Nat→Nat}(h1:∀i,i<d→f i<m) (h2:∀i k,i<k→k<d→f i<f k):d≤m:=by
 refine Nat.le_of_not_lt fun hlt=>?_
 have lo:∀i,i<d→i≤f i:=by
  intro i
  induction i with
  | zero=>intro _;omega
  | succ i ih=>intro h;have:=ih (by omega);have:=h2 i (i+1) (by omega) h;omega
 have:=lo m hlt
 have:=h1 m hlt
 omega
theorem Ech.map {m:Nat}{Y:Mx}(h:Ech c n Z) (h':Ech c m Y) (s:Sub n m c Z Y):∃f:Nat→Nat,(∀i,i<n→f i<m∧ldr c (Z i)=ldr c (Y (f i))∧∃y,y≠0∧Z i (ldr c (Z i))=y*Y (f i) (ldr c (Z i)))∧∀i k,i<k→k<n→f i<f k:=by
 have key:∀i,∃k,i<n→k<m∧ldr c (Z i)=ldr c (Y k)∧∃y,y≠0∧Z i (ldr c (Z i))=y*Y k (ldr c (Z i)):=fun i=>by
  by_cases hi:i<n
  ·obtain⟨k,y,hk,hy,h1,h2⟩:=h'.at_ (s i hi) (h.lt i hi)
   exact⟨k,fun _=>⟨hk,h1,y,hy,by rw [h2,h1]⟩⟩
  ·exact⟨0,fun hh=>absurd hh hi⟩
 obtain⟨f,hf⟩:=Classical.axiomOfChoice key
 refine⟨f,hf,fun i k hik hk=>?_⟩
 have h1:=(hf i (by omega)).2.1
 have h2:=(hf k hk).2.1
 have h3:=h.up i k hik hk
 rw [h1,h2] at h3
 rcases Nat.lt_trichotomy (f i) (f k) with e | e | e
 ·exact e
 ·rw [e] at h3;omega
 ·have:=h'.up (f k) (f i) e (hf i (by omega)).1;omega
theorem Hf.uniq {m:Nat}{Y:Mx}(h:Hf c n Z) (h':Hf c m Y) (e:Eqv n m c Z Y):n=m∧∀i,i<n→∀j,j<c→Z i j=Y i j:=by
 obtain⟨f,hf,fm⟩:=h.toEch.map h'.toEch e.fw
 obtain⟨g,hg,gm⟩:=h'.toEch.map h.toEch e.fro
 obtain rfl:n=m:=Nat.le_antisymm (mono_le (fun i hi=>(hf i hi).1) fm) (mono_le (fun i hi=>(hg i hi).1) gm)
 have fi:=mono_id (fun i hi=>(hf i hi).1) fm
 have gi:=mono_id (fun i hi=>(hg i hi).1) gm
 have hl:∀i,i<n→ldr c (Z i)=ldr c (Y i):=fun i hi=>by have:=(hf i hi).2.1;rwa [fi i hi] at this
 have hp:∀i,i<n→Z i (ldr c (Z i))=Y i (ldr c (Z i)):=fun i hi=>by
  obtain⟨y,hy,h1⟩:=(hf i hi).2.2
  obtain⟨z,hz,h2⟩:=(hg i hi).2.2
  rw [fi i hi] at h1
  rw [gi i hi,←hl i hi] at h2
  have p1:=h.pos i hi
  have p2:=h'.pos i hi
  rw [←hl i hi] at p2
  generalize Z i (ldr c (Z i))=a at*
  generalize Y i (ldr c (Z i))=b at*
  have h3:a∣b:=⟨z,by rw [h2,Int.mul_comm]⟩
  have h4:b∣a:=⟨y,by rw [h1,Int.mul_comm]⟩
  have h5:=Int.le_of_dvd p2 h3
  have h6:=Int.le_of_dvd p1 h4
  omega
 refine⟨rfl,fun i hi=>?_⟩
 have hd:Spn n c Y fun j=>1*Z i j+ -1*Y i j:=(e.fw i hi).lin (Spn.row hi) 1 (-1)
 rcases h'.toEch.begins hd with h0 | ⟨k,y,hk,hy,h1,h2⟩
 ·intro j hj;have:=h0 j hj;omega
 ·exfalso
  have p:=h'.pos k hk
  rw [←hl k hk] at h1 h2 p
  have hne:1*Z i (ldr c (Z k))+ -1*Y i (ldr c (Z k))≠0:=by rw [h2];exact Int.mul_ne_zero hy (by omega)
  rcases Nat.lt_trichotomy k i with hki | hki | hki
  ·have e1:Z i (ldr c (Z k))=0:=h.toEch.low hki hi (Nat.le_refl _)
   have e2:Y i (ldr c (Z k))=0:=by rw [hl k hk];exact h'.toEch.low hki hi (Nat.le_refl _)
   rw [e1,e2] at hne;exact hne rfl
  ·subst hki
   have:=hp k hk
   omega
  ·obtain⟨r1,r2⟩:=h.red i k hki hk
   obtain⟨r3,r4⟩:=h'.red i k hki hk
   rw [←hl k hk] at r3 r4
   have:=hp k hk
   have h5:(Y k (ldr c (Z k)))∣(1*Z i (ldr c (Z k))+ -1*Y i (ldr c (Z k))):=⟨y,by rw [h2,Int.mul_comm]⟩
   have h6:=Int.natAbs_dvd_natAbs.2 h5
   have h7:=Nat.le_of_dvd (by omega) h6
   omega
end
theorem dt_tri:∀(n:Nat) (A:Mx),(∀i j,j<i→i<n→A i j=0)→(∀i,i<n→A i i≠0)→dt n A≠0∧∀i,i<n→A i i∣dt n A
 | 0,A,_,_=>⟨(by decide:(1:Int)≠0),fun i h=>absurd h (Nat.not_lt_zero i)⟩
 | n+1,A,h,h0=>by
  have e:dt (n+1) A=A 0 0*dt n (mi A 0):=by
   have e1:dt (n+1) A=sm (n+1) fun i=>pm i*(A i 0*dt n (mi A i)):=rfl
   rw [e1,sm_front,←Int.add_zero (A 0 0*dt n (mi A 0))]
   congr 1
   ·simp [pm]
   ·rw [←sm_zero n]
    exact sm_congr fun i hi=>by rw [h (i+1) 0 (by omega) (by omega)];simp
  have hm:∀r s,mi A 0 r s=A (r+1) (s+1):=fun r s=>rfl
  obtain⟨h1,h2⟩:=dt_tri n (mi A 0) (fun i j hij hi=>by rw [hm];exact h _ _ (by omega) (by omega)) (fun i hi=>by rw [hm];exact h0 _ (by omega))
  rw [e]
  refine⟨Int.mul_ne_zero (h0 0 (by omega)) h1,fun i hi=>?_⟩
  cases i with
  | zero=>exact Int.dvd_mul_right _ _
  | succ i=>exact Int.dvd_mul_of_dvd_right (by have:=h2 i (by omega);rwa [hm] at this)
section
variable {c d:Nat}{Z B:Mx}
def mnr (c d:Nat) (Z B:Mx):Int:=dt d fun i j=>B i (ldr c (Z j))
theorem Ech.mnr (h:Ech c d Z) (hq:∀i,i<d→Qsp d c B (Z i)):Go.Proofs.YtnpbbknemflpnaaGreat.mnr c d Z B≠0:=by
 have key:∀i,∃sx:Int×(Nat→Int),i<d→sx.1≠0∧∀j,j<c→sx.1*Z i j=sm d fun k=>sx.2 k*B k j:=fun i=>by
  by_cases hi:i<d
  ·obtain⟨s,hs,x,hx⟩:=hq i hi
   exact⟨(s,x),fun _=>⟨hs,hx⟩⟩
  ·exact⟨(0,fun _=>0),fun hh=>absurd hh hi⟩
 obtain⟨f,hf⟩:=Classical.axiomOfChoice key
 have e:dt d (fun i j=>(f i).1*Z i (ldr c (Z j)))=dt d (fun i k=>(f i).2 k)*Go.Proofs.YtnpbbknemflpnaaGreat.mnr c d Z B:=by
  unfold Go.Proofs.YtnpbbknemflpnaaGreat.mnr
  rw [←dt_mul]
  exact dt_congr fun i j hi hj=>(hf i hi).2 _ (h.lt j hj)
 have h1:=(dt_tri d (fun i j=>(f i).1*Z i (ldr c (Z j))) (fun i j hji hi=>by rw [h.low hji hi (Nat.le_refl _),Int.mul_zero]) (fun i hi=>by
  have:=h.pos i hi
  exact Int.mul_ne_zero (hf i hi).1 (by omega))).1
 intro e2
 rw [e,e2,Int.mul_zero] at h1
 exact h1 rfl
theorem Ech.dvd (h:Ech c d Z) (hs:Sub d d c B Z){i:Nat}(hi:i<d):Z i (ldr c (Z i))∣Go.Proofs.YtnpbbknemflpnaaGreat.mnr c d Z B:=by
 have key:∀i,∃x:Nat→Int,i<d→∀j,j<c→B i j=sm d fun k=>x k*Z k j:=fun i=>by
  by_cases hi:i<d
  ·obtain⟨x,hx⟩:=hs i hi
   exact⟨x,fun _=>hx⟩
  ·exact⟨fun _=>0,fun hh=>absurd hh hi⟩
 obtain⟨f,hf⟩:=Classical.axiomOfChoice key
 have e:Go.Proofs.YtnpbbknemflpnaaGreat.mnr c d Z B=dt d (fun i k=>f i k)*dt d (fun i j=>Z i (ldr c (Z j))):=by
  unfold Go.Proofs.YtnpbbknemflpnaaGreat.mnr
  rw [←dt_mul]
  exact dt_congr fun i j hi hj=>hf i hi _ (h.lt j hj)
 rw [e]
 refine Int.dvd_mul_of_dvd_right ((dt_tri d (fun i j=>Z i (ldr c (Z j))) (fun i j hji hi=>h.low hji hi (Nat.le_refl _)) (fun i hi=>?_)).2 i hi)
 have:=h.pos i hi
 omega
def mfl (d:Nat) (B:Mx) (P:Nat→Nat) (q:Nat) (v:Nat→Int):Mx:=fun r s=>if r<d then B r (if s<d then P s else q) else if r<2*d then (if s=r-d then 1 else 0) else v (if s<d then P s else q)
def zco (d:Nat) (B:Mx) (P:Nat→Nat) (q l:Nat):Int:=dt (d+1) fun r s=>if r<d then B r (if s<d then P s else q) else if s=l then 1 else 0
theorem zco_bm (B:Mx) (P:Nat→Nat) (q:Nat) (v:Nat→Int){l:Nat}(hl:l<d):bm (mfl d B P q v) d (d+l) d=zco d B P q l:=by
 refine dt_congr fun r s hr hs=>?_
 unfold bord mfl
 by_cases h1:r<d
 ·rw [if_pos h1,if_pos h1,if_pos h1]
  by_cases h2:s<d
  ·rw [if_pos h2,if_pos h2]
  ·rw [if_neg h2,if_neg h2,if_neg (Nat.lt_irrefl d)]
 ·rw [if_neg h1,if_neg h1,if_neg (by omega),if_pos (by omega)]
  by_cases h2:s<d
  ·rw [if_pos h2,show d+l-d=l by omega]
  ·rw [if_neg h2,if_neg (by omega),if_neg (by omega)]
theorem bm_dep {P:Mx}{k i j:Nat}{s:Int}(hs:s≠0){x:Nat→Int}(h:∀b,b<k∨b=j→s*P i b=sm k fun l=>x l*P l b):bm P k i j=0:=by
 have ha:=dt_alt (k+1)
 have e1:dt (k+1) (srw (bord P k i j) k fun b=>sm 1 fun _=>s*bord P k i j k b)=s*bm P k i j:=by
  rw [ha.sum (bord P k i j) (by omega) 1 (fun _=>s) (fun _=>bord P k i j k),srw_self]
  simp only [sm]
  rw [Int.zero_add];rfl
 have e2:dt (k+1) (srw (bord P k i j) k fun b=>sm 1 fun _=>s*bord P k i j k b)=dt (k+1) (srw (bord P k i j) k fun b=>sm k fun l=>x l*bord P k i j l b):=by
  refine dt_congr fun a b _ hb=>?_
  by_cases ek:a=k
  ·subst ek
   rw [srw_at,srw_at]
   simp only [sm]
   rw [Int.zero_add]
   have e4:∀r,r<a+1→bord P a i j r b=P (if r<a then r else i) (if b<a then b else j):=fun _ _=>rfl
   rw [e4 a (by omega),if_neg (Nat.lt_irrefl a)]
   rw [h (if b<a then b else j) (by split <;> omega)]
   exact sm_congr fun l hl=>by rw [e4 l (by omega),if_pos hl]
  ·rw [srw_ne _ _ _ ek,srw_ne _ _ _ ek]
 have e3:dt (k+1) (srw (bord P k i j) k fun b=>sm k fun l=>x l*bord P k i j l b)=0:=by
  rw [ha.sum (bord P k i j) (by omega) k x (fun l=>bord P k i j l),←sm_zero k]
  refine sm_congr fun l hl=>?_
  rw [ha.alt (srw (bord P k i j) k (bord P k i j l)) l k hl (by omega) (fun b _=>by rw [srw_at,srw_ne _ _ _ (by omega)]),Int.mul_zero]
 rw [e2,e3] at e1
 rcases Int.mul_eq_zero.1 e1.symm with h1 | h1
 ·exact absurd h1 hs
 ·exact h1
theorem span_id {P:Nat→Nat}(hP:∀l,l<d→P l<c){q:Nat}(hq:q<c){v:Nat→Int}(hv:Qsp d c B v):dt d (fun i j=>B i (P j))*v q= -(sm d fun l=>zco d B P q l*v (P l)):=by
 obtain⟨s,hs,x,hx⟩:=hv
 obtain⟨z,hz⟩:=bm_col (mfl d B P q v) d d
 have h0:bm (mfl d B P q v) d (2*d) d=0:=bm_dep hs (x:=x) fun b hb=>by
  have e1:mfl d B P q v (2*d) b=v (if b<d then P b else q):=by
   unfold mfl;rw [if_neg (by omega),if_neg (by omega)]
  have e2:s*v (if b<d then P b else q)=sm d fun l=>x l*B l (if b<d then P b else q):=hx _ (by split;(· exact hP _ (by assumption));(· exact hq))
  rw [e1,e2]
  exact sm_congr fun l hl=>by unfold mfl;rw [if_pos hl]
 have hd:dt d (mfl d B P q v)=dt d (fun i j=>B i (P j)):=dt_congr fun i j hi hj=>by
  unfold mfl;rw [if_pos hi,if_pos hj]
 have hzl:∀l,l<d→z l=zco d B P q l:=fun l hl=>by
  rw [←zco_bm B P q v hl,hz (d+l)]
  have e1:mfl d B P q v (d+l) d=0:=by
   unfold mfl;rw [if_neg (by omega),if_pos (by omega),if_neg (by omega)]
  have e2:(sm d fun k=>z k*mfl d B P q v (d+l) k)=z l:=by
   rw [←sm_at hl z]
   refine sm_congr fun k _=>?_
   unfold mfl
   rw [if_neg (by omega),if_pos (by omega),show d+l-d=l by omega]
   by_cases e:k=l
   ·rw [if_pos e,if_pos e,Int.mul_one]
   ·rw [if_neg e,if_neg e,Int.mul_zero]
  rw [e1,e2,Int.mul_zero,Int.zero_add]
 have h1:=hz (2*d)
 have e3:mfl d B P q v (2*d) d=v q:=by
  unfold mfl;rw [if_neg (by omega),if_neg (by omega),if_neg (Nat.lt_irrefl d)]
 rw [h0,hd,e3] at h1
 have e4:(sm d fun k=>z k*mfl d B P q v (2*d) k)=sm d fun l=>zco d B P q l*v (P l):=sm_congr fun l hl=>by
  rw [hzl l hl]
  unfold mfl;rw [if_neg (by omega),if_neg (by omega),if_pos hl]
 rw [e4] at h1
 omega
end
def BzE (E:Int→Int→Int×Int):Prop:=∀x y,x*(E x y).1+y*(E x y).2=(Int.gcd x y:Int)
section
variable (E:Int→Int→Int×Int)
def meetF (k n j:Nat) (Z:Mx):Mx:=
 if Z n j+ -(Z n j/Z k j)*Z k j=0 then adR n k (-(Z n j/Z k j)) Z
 else mxR k n (E (Z k j) (Z n j+ -(Z n j/Z k j)*Z k j)).1 (E (Z k j) (Z n j+ -(Z n j/Z k j)*Z k j)).2
  (-((Z n j+ -(Z n j/Z k j)*Z k j).tdiv (Int.gcd (Z k j) (Z n j+ -(Z n j/Z k j)*Z k j):Int))) ((Z k j).tdiv (Int.gcd (Z k j) (Z n j+ -(Z n j/Z k j)*Z k j):Int)) (adR n k (-(Z n j/Z k j)) Z)
theorem fl_mod (x p:Int):x+ -(x/p)*p=x%p:=by
 have:=Int.mul_ediv_add_emod x p
 rw [Int.neg_mul,Int.mul_comm (x/p)];omega
structure Met (c k n j:Nat) (Z Y:Mx):Prop where
 ne:∀r,r≠k→r≠n→Y r=Z r
 zn:∀b,b≤j→Y n b=0
 zk:∀b,b<j→Y k b=0
 pos:0<Y k j
 eqv:Eqv (n+1) (n+1) c Y Z
 cmb:∃a b:Int,a≠0∧∀q,Y n q=a*Z n q+b*Z k q
theorem meet_met {E:Int→Int→Int×Int}(hE:BzE E){c k n j:Nat}{Z:Mx}(hkn:k<n) (hp:0<Z k j) (hk:∀b,b<j→Z k b=0) (hn:∀b,b<j→Z n b=0):Met c k n j Z (meetF E k n j Z):=by
 have hne:n≠k:=by omega
 have hmod:=fl_mod (Z n j) (Z k j)
 have e1:=Int.emod_nonneg (Z n j) (show Z k j≠0 by omega)
 have e2:=Int.emod_lt_of_pos (Z n j) hp
 have ad_eq:Eqv (n+1) (n+1) c (adR n k (-(Z n j/Z k j)) Z) Z:=adR_eqv (by omega) (by omega) hne _
 unfold meetF
 by_cases h0:Z n j+ -(Z n j/Z k j)*Z k j=0
 ·rw [if_pos h0]
  refine⟨fun r h1 h2=>adR_ne _ _ _ h2,fun b hb=>?_,fun b hb=>by rw [adR_ne _ _ _ (fun e=>hne e.symm)];exact hk b hb,by rw [adR_ne _ _ _ (fun e=>hne e.symm)];exact hp,ad_eq,1,-(Z n j/Z k j),by decide,fun q=>by rw [adR_at,Int.one_mul]⟩
  rw [adR_at]
  by_cases e:b=j
  ·subst e;exact h0
  ·rw [hn b (by omega),hk b (by omega),Int.mul_zero,Int.add_zero]
 ·rw [if_neg h0]
  rw [hmod] at h0⊢
  generalize hq: -(Z n j/Z k j)=q at*
  generalize hv:Z n j%Z k j=v at*
  generalize hu:E (Z k j) v=u
  have hb:=hE (Z k j) v
  rw [hu] at hb
  have hg:(Int.gcd (Z k j) v:Int)≠0:=by
   have:=Int.gcd_pos_of_ne_zero_left v (show Z k j≠0 by omega);omega
  have ga:=Int.mul_tdiv_cancel' (Int.gcd_dvd_left (Z k j) v)
  have gb:=Int.mul_tdiv_cancel' (Int.gcd_dvd_right (Z k j) v)
  have gp:(0:Int)<(Int.gcd (Z k j) v:Int):=by omega
  generalize hgg:(Int.gcd (Z k j) v:Int)=g at*
  generalize haa:(Z k j).tdiv g=a at*
  generalize hbb:v.tdiv g=b at*
  have ha0:a≠0:=fun e=>by rw [e,Int.mul_zero] at ga;omega
  have hdet:u.1*a-u.2* -b=1:=by
   refine Int.eq_of_mul_eq_mul_left hg ?_
   have:g*(u.1*a-u.2* -b)=(g*a)*u.1+(g*b)*u.2:=by grind
   rw [this,ga,gb,hb,Int.mul_one]
  have hkj:adR n k q Z k=Z k:=adR_ne _ _ _ (fun e=>hne e.symm)
  have hnj:adR n k q Z n j=v:=by rw [adR_at,hmod]
  refine⟨fun r h1 h2=>by rw [mxR_ne _ _ _ _ _ h1 h2];exact adR_ne _ _ _ h2,fun b' hb'=>?_,fun b' hb'=>?_,?_,(mxR_eqv (by omega) (by omega) (fun e=>hne e.symm) hdet).trans ad_eq,a,-b+a*q,ha0,fun r=>?_⟩
  ·rw [mxR_j (fun e=>hne e.symm),hkj]
   by_cases e:b'=j
   ·subst e
    rw [hnj]
    have:g*(-b*Z k b'+a*v)=0:=by
     have h1:g*(-b*Z k b'+a*v)= -(g*b)*Z k b'+(g*a)*v:=by grind
     rw [h1,ga,gb,Int.neg_mul,Int.mul_comm v];omega
    rcases Int.mul_eq_zero.1 this with h | h
    ·exact absurd h hg
    ·exact h
   ·rw [adR_at,hn b' (by omega),hk b' (by omega)];simp
  ·rw [mxR_i,hkj,adR_at,hn b' hb',hk b' hb'];simp
  ·rw [mxR_i,hkj,hnj,Int.mul_comm u.1,Int.mul_comm u.2,hb];exact gp
  ·rw [mxR_j (fun e=>hne e.symm),hkj,adR_at];grind
def rrS (ld:Nat→Nat) (i:Nat):Nat→Mx→Mx
 | 0,Z=>Z
 | m+1,Z=>adR i (i+1+m) (-(rrS ld i m Z i (ld (i+1+m))/rrS ld i m Z (i+1+m) (ld (i+1+m)))) (rrS ld i m Z)
def ssS (ld:Nat→Nat) (n:Nat):Nat→Mx→Mx
 | 0,Z=>Z
 | t+1,Z=>rrS ld (n-1-t) t (ssS ld n t Z)
def stl (c n:Nat) (Z:Mx):Mx:=ssS (fun k=>ldr c (Z k)) n n Z
theorem rrS_ne (ld:Nat→Nat){i a:Nat}(h:a≠i):∀(m:Nat) (Z:Mx),rrS ld i m Z a=Z a
 | 0,_=>rfl
 | m+1,Z=>by rw [rrS,adR_ne _ _ _ h,rrS_ne ld h m Z]
theorem ssS_fin (ld:Nat→Nat) (n:Nat) (Z:Mx){k t:Nat}(h:n-t≤k):∀s,t+s≤n→ssS ld n (t+s) Z k=ssS ld n t Z k
 | 0,_=>rfl
 | s+1,hs=>by
  show rrS ld (n-1-(t+s)) (t+s) (ssS ld n (t+s) Z) k=_
  rw [rrS_ne ld (by omega),ssS_fin ld n Z h s (by omega)]
theorem ssS_up (ld:Nat→Nat){n k:Nat}(Z:Mx) (h:n≤k):∀t,t≤n→ssS ld n t Z k=Z k
 | 0,_=>rfl
 | t+1,ht=>by
  show rrS ld (n-1-t) t (ssS ld n t Z) k=_
  rw [rrS_ne ld (by omega),ssS_up ld Z h t (by omega)]
structure Rrd (c n i m:Nat) (Z Y:Mx):Prop where
 ne:∀a,a≠i→Y a=Z a
 lo:∀b,b≤ldr c (Z i)→Y i b=Z i b
 red:∀k,i<k→k≤i+m→0≤Y i (ldr c (Z k))∧Y i (ldr c (Z k))<Z k (ldr c (Z k))
 eqv:Eqv n n c Y Z
theorem rrS_rrd {c n i:Nat}{Z:Mx}(h:Ech c n Z):∀m,i+m<n→Rrd c n i m Z (rrS (fun k=>ldr c (Z k)) i m Z)
 | 0,_=>⟨fun _ _=>rfl,fun _ _=>rfl,fun k h1 h2=>by omega,Eqv.refl n c Z⟩
 | m+1,hm=>by
  have ih:=rrS_rrd h m (show i+m<n by omega)
  have hk:i+1+m≠i:=by omega
  have hkn:i+1+m<n:=by omega
  have hK:=ih.ne (i+1+m) hk
  have hp:=h.pos _ hkn
  rw [rrS]
  generalize rrS (fun k=>ldr c (Z k)) i m Z=Y at*
  rw [hK]
  refine⟨fun a ha=>by rw [adR_ne _ _ _ ha];exact ih.ne a ha,fun b hb=>?_,fun k h1 h2=>?_,(adR_eqv (by omega) (by omega) (by omega) _).trans ih.eqv⟩
  ·rw [adR_at,hK,h.low (show i<i+1+m by omega) hkn hb,Int.mul_zero,Int.add_zero];exact ih.lo b hb
  ·rw [adR_at,hK]
   by_cases e:k=i+1+m
   ·subst e
    rw [fl_mod]
    exact⟨Int.emod_nonneg _ (by omega),Int.emod_lt_of_pos _ hp⟩
   ·rw [h.low (show k<i+1+m by omega) hkn (Nat.le_refl _),Int.mul_zero,Int.add_zero]
    exact ih.red k h1 (by omega)
structure Std (c n t:Nat) (Z Y:Mx):Prop where
 ech:Ech c n Y
 ld:∀i,i<n→ldr c (Y i)=ldr c (Z i)
 pv:∀i,i<n→Y i (ldr c (Z i))=Z i (ldr c (Z i))
 red:∀i k,n-t≤i→i<k→k<n→0≤Y i (ldr c (Z k))∧Y i (ldr c (Z k))<Z k (ldr c (Z k))
 eqv:Eqv n n c Y Z
theorem ssS_std {c n:Nat}{Z:Mx}(h:Ech c n Z):∀t,t≤n→Std c n t Z (ssS (fun k=>ldr c (Z k)) n t Z)
 | 0,_=>⟨h,fun _ _=>rfl,fun _ _=>rfl,fun i k h1 h2 h3=>by omega,Eqv.refl n c Z⟩
 | t+1,ht=>by
  have ih:=ssS_std h t (by omega)
  rw [ssS]
  generalize ssS (fun k=>ldr c (Z k)) n t Z=Y at*
  have e:∀m,n-1-t+m<n→rrS (fun k=>ldr c (Z k)) (n-1-t) m Y=rrS (fun k=>ldr c (Y k)) (n-1-t) m Y:=by
   intro m
   induction m with
   | zero=>intro _;rfl
   | succ m ihm=>intro hm;rw [rrS,rrS,ihm (by omega)];rw [ih.ld _ (show n-1-t+1+m<n by omega)]
  have hr:=rrS_rrd (i:=n-1-t) ih.ech t (by omega)
  rw [e t (by omega)]
  generalize rrS (fun k=>ldr c (Y k)) (n-1-t) t Y=X at*
  have hl:∀i,i<n→ldr c (X i)=ldr c (Z i):=fun i hi=>by
   by_cases e2:i=n-1-t
   ·rw [←ih.ld i hi]
    subst e2
    have h1:=ih.ech.lt _ hi
    have h2:=ih.ech.pos _ hi
    refine ldr_eq (fun j hj=>?_) h1 ?_
    ·rw [hr.lo j (by omega)];exact ldr_zero hj
    ·rw [hr.lo _ (Nat.le_refl _)];omega
   ·rw [hr.ne i e2];exact ih.ld i hi
  have hpv:∀i,i<n→X i (ldr c (Z i))=Z i (ldr c (Z i)):=fun i hi=>by
   by_cases e2:i=n-1-t
   ·rw [←ih.pv i hi]
    subst e2
    exact hr.lo _ (by rw [ih.ld _ hi];exact Nat.le_refl _)
   ·rw [hr.ne i e2];exact ih.pv i hi
  refine⟨⟨fun i hi=>by rw [hl i hi];exact h.lt i hi,fun i k hik hk=>by rw [hl i (by omega),hl k hk];exact h.up i k hik hk,fun i hi=>by rw [hl i hi,hpv i hi];exact h.pos i hi⟩,hl,hpv,fun i k h1 h2 h3=>?_,hr.eqv.trans ih.eqv⟩
  by_cases e2:i=n-1-t
  ·subst e2
   have h4:=hr.red k h2 (by omega)
   rw [ih.ld k h3,ih.pv k h3] at h4
   exact h4
  ·rw [hr.ne i e2];exact ih.red i k (by omega) h2 h3
theorem stl_hf {c n:Nat}{Z:Mx}(h:Ech c n Z):Hf c n (stl c n Z)∧Eqv n n c (stl c n Z) Z:=by
 have hs:=ssS_std h n (Nat.le_refl n)
 exact⟨⟨hs.ech,fun i k hik hk=>by
  have:=hs.red i k (by omega) hik hk
  unfold stl
  rw [hs.ld k hk,hs.pv k hk]
  exact this⟩,hs.eqv⟩
theorem adR_0 (i j:Nat) (Z:Mx):adR i j 0 Z=Z:=by
 funext a b
 unfold adR
 split
 ·rename_i h;subst h;simp
 ·rfl
def adv (c:Nat) (Z:Mx) (j:Nat):Nat→Nat→Nat
 | 0,a=>a
 | f+1,a=>if ldr c (Z a)<j then adv c Z j f (a+1) else a
theorem adv_spec (c:Nat) (Z:Mx) (j:Nat):∀f a,a≤adv c Z j f a∧adv c Z j f a≤a+f∧(∀r,a≤r→r<adv c Z j f a→ldr c (Z r)<j)∧(adv c Z j f a<a+f→j≤ldr c (Z (adv c Z j f a)))
 | 0,a=>⟨Nat.le_refl _,Nat.le_refl _,fun r h1 h2=>by have:adv c Z j 0 a=a:=rfl;omega,fun h=>by have:adv c Z j 0 a=a:=rfl;omega⟩
 | f+1,a=>by
  obtain⟨h1,h2,h3,h4⟩:=adv_spec c Z j f (a+1)
  rw [adv]
  by_cases h:ldr c (Z a)<j
  ·rw [if_pos h]
   refine⟨by omega,by omega,fun r h5 h6=>?_,fun h5=>h4 (by omega)⟩
   by_cases e:r=a
   ·subst e;exact h
   ·exact h3 r (by omega) h6
  ·rw [if_neg h];exact⟨Nat.le_refl _,by omega,fun r h5 h6=>by omega,fun _=>by omega⟩
def putL (c n:Nat):Nat→Nat→Mx→Bool×Nat×Mx
 | 0,a,Z=>(false,a,Z)
 | f+1,a,Z=>
  if ldr c (Z n)=c then (false,a,Z)
  else if adv c Z (ldr c (Z n)) (n-a) a=n∨ldr c (Z (adv c Z (ldr c (Z n)) (n-a) a))≠ldr c (Z n) then (true,adv c Z (ldr c (Z n)) (n-a) a,Z)
  else putL c n f (adv c Z (ldr c (Z n)) (n-a) a) (meetF E (adv c Z (ldr c (Z n)) (n-a) a) n (ldr c (Z n)) Z)
def sgnR (c n:Nat) (Z:Mx):Mx:=if Z n (ldr c (Z n))<0 then tnR n Z else Z
def putF (c n:Nat) (Z:Mx):Mx:=
 if (putL E c n (c+1) 0 Z).1=true then stl c (n+1) (mvU n (putL E c n (c+1) 0 Z).2.1 (sgnR c n (putL E c n (c+1) 0 Z).2.2)) else stl c n (putL E c n (c+1) 0 Z).2.2
def putB (c n:Nat) (Z:Mx):Bool:=(putL E c n (c+1) 0 Z).1
end
structure PI (c n:Nat) (Z:Mx) (a:Nat) (Y:Mx):Prop where
 an:a≤n
 up:∀r,a<r→r≠n→Y r=Z r
 ata:a<n→Y a=Z a∨ldr c (Y a)<ldr c (Y n)
 lda:∀r,r<a→ldr c (Y r)<ldr c (Y n)
 ld:∀r,r<n→ldr c (Y r)=ldr c (Z r)
 pos:∀r,r<n→0<Y r (ldr c (Y r))
 eqv:Eqv (n+1) (n+1) c Y Z
 dep:∃x:Int,x≠0∧Qsp n c Z fun q=>Y n q-x*Z n q
theorem PI.start {c n:Nat}{Z:Mx}(h:Ech c n Z):PI c n Z 0 Z:=
 ⟨Nat.zero_le _,fun _ _ _=>rfl,fun _=>Or.inl rfl,fun r h=>absurd h (Nat.not_lt_zero r),fun _ _=>rfl,h.pos,Eqv.refl _ c Z,1,by decide,Qsp.zero.congr fun j _=>by omega⟩
section
variable {E:Int→Int→Int×Int}{c n a:Nat}{Z Y:Mx}
theorem PI.advs (h:PI c n Z a Y):a≤adv c Y (ldr c (Y n)) (n-a) a∧adv c Y (ldr c (Y n)) (n-a) a≤n∧(∀r,r<adv c Y (ldr c (Y n)) (n-a) a→ldr c (Y r)<ldr c (Y n))∧
  (adv c Y (ldr c (Y n)) (n-a) a<n→ldr c (Y n)≤ldr c (Y (adv c Y (ldr c (Y n)) (n-a) a))∧∀r,adv c Y (ldr c (Y n)) (n-a) a≤r→r<n→Y r=Z r):=by
 have han:=h.an
 obtain⟨h1,h2,h3,h4⟩:=adv_spec c Y (ldr c (Y n)) (n-a) a
 generalize Go.Proofs.YtnpbbknemflpnaaGreat.adv c Y (ldr c (Y n)) (n-a) a=a' at*
 refine⟨h1,by omega,fun r hr=>?_,fun hlt=>⟨h4 (by omega),fun r hr hrn=>?_⟩⟩
 ·rcases Nat.lt_or_ge r a with e | e
  ·exact h.lda r e
  ·exact h3 r e hr
 ·by_cases e:r=a
  ·have ea:a'=a:=by omega
   subst e
   rcases h.ata hrn with e2 | e2
   ·exact e2
   ·have:=h4 (by omega);rw [ea] at this;omega
  ·exact h.up r (by omega) (by omega)
theorem PI.step (hE:BzE E) (h:PI c n Z a Y){a' j:Nat}(ha:a'=adv c Y (ldr c (Y n)) (n-a) a) (hj:j=ldr c (Y n)) (hjc:j<c) (h1:a'<n) (h2:ldr c (Y a')=j):PI c n Z a' (meetF E a' n j Y)∧(∀b,b≤j→meetF E a' n j Y n b=0):=by
 obtain⟨g1,g2,g3,g4⟩:=h.advs
 rw [←ha,←hj] at g3 g4
 obtain⟨g5,g6⟩:=g4 h1
 have hm:Met c a' n j Y (meetF E a' n j Y):=meet_met hE h1 (by have:=h.pos a' h1;rwa [h2] at this) (fun b hb=>ldr_zero (c:=c) (by omega)) (fun b hb=>ldr_zero (c:=c) (by omega))
 generalize meetF E a' n j Y=X at*
 have hlx:j<c→j<ldr c (X n):=fun _=>ldr_low (l:=j+1) (fun b hb _=>hm.zn b (by omega)) (by omega)
 have hla:ldr c (X a')=j:=ldr_eq hm.zk hjc (by have:=hm.pos;omega)
 refine⟨⟨by omega,fun r hr hrn=>?_,fun _=>Or.inr (by rw [hla];exact hlx hjc),fun r hr=>?_,fun r hr=>?_,fun r hr=>?_,hm.eqv.trans h.eqv,?_⟩,hm.zn⟩
 ·rw [hm.ne r (by omega) hrn];exact h.up r (by omega) hrn
 ·rw [hm.ne r (by omega) (by omega)];have:=g3 r hr;have:=hlx hjc;omega
 ·by_cases e:r=a'
  ·subst e;rw [hla,←h.ld r hr,h2]
  ·rw [hm.ne r e (by omega)];exact h.ld r hr
 ·by_cases e:r=a'
  ·subst e;rw [hla];exact hm.pos
  ·rw [hm.ne r e (by omega)];exact h.pos r hr
 ·obtain⟨x,hx,hq⟩:=h.dep
  obtain⟨u,v,hu,hcmb⟩:=hm.cmb
  refine⟨u*x,Int.mul_ne_zero hu hx,(hq.lin (Spn.row (c:=c) (Z:=Z) h1).q u v).congr fun q _=>?_⟩
  rw [hcmb q,g6 a' (Nat.le_refl _) h1];grind
structure PO (c n:Nat) (Z:Mx) (R:Bool×Nat×Mx):Prop where
 an:R.2.1≤n
 up:∀r,n<r→R.2.2 r=Z r
 ld:∀r,r<n→ldr c (R.2.2 r)=ldr c (Z r)
 pos:∀r,r<n→0<R.2.2 r (ldr c (R.2.2 r))
 eqv:Eqv (n+1) (n+1) c R.2.2 Z
 no:R.1=false→(∀b,b<c→R.2.2 n b=0)∧Qsp n c Z (Z n)
 yes:R.1=true→ldr c (R.2.2 n)<c∧(∀r,r<R.2.1→ldr c (R.2.2 r)<ldr c (R.2.2 n))∧∀r,R.2.1≤r→r<n→ldr c (R.2.2 n)<ldr c (R.2.2 r)
theorem putL_po (hE:BzE E) (hz:Ech c n Z):∀(f a:Nat) (Y:Mx),PI c n Z a Y→c<f+ldr c (Y n)→PO c n Z (putL E c n f a Y)
 | 0,a,Y,_,hf=>by have:=ldr_le c (Y n);omega
 | f+1,a,Y,h,hf=>by
  rw [putL]
  by_cases h1:ldr c (Y n)=c
  ·rw [if_pos h1]
   refine⟨h.an,fun r hr=>h.up r (by have:=h.an;omega) (by omega),h.ld,h.pos,h.eqv,fun _=>?_,fun e=>(by cases e)⟩
   have h0:∀b,b<c→Y n b=0:=fun b hb=>ldr_zero (c:=c) (by omega)
   refine⟨h0,?_⟩
   obtain⟨x,hx,hq⟩:=h.dep
   exact (hq.congr (u:=fun q=> -x*Z n q) fun q hq=>by rw [h0 q hq,Int.neg_mul];omega).of (by omega)
  ·rw [if_neg h1]
   have hlt:ldr c (Y n)<c:=by have:=ldr_le c (Y n);omega
   obtain⟨g1,g2,g3,g4⟩:=h.advs
   generalize ha:adv c Y (ldr c (Y n)) (n-a) a=a' at*
   by_cases h2:a'=n∨ldr c (Y a')≠ldr c (Y n)
   ·rw [if_pos h2]
    refine⟨g2,fun r hr=>h.up r (by have:=h.an;omega) (by omega),h.ld,h.pos,h.eqv,fun e=>(by cases e),fun _=>⟨hlt,g3,fun r hr hrn=>?_⟩⟩
    simp only at hr⊢
    obtain⟨g5,g6⟩:=g4 (by omega)
    have h3:ldr c (Y n)<ldr c (Y a'):=by rcases h2 with h2 | h2 <;> omega
    by_cases e:r=a'
    ·subst e;exact h3
    ·have:=hz.up a' r (by omega) hrn
     rw [←h.ld a' (by omega),←h.ld r hrn] at this;omega
   ·rw [if_neg h2]
    obtain⟨h3,h4⟩:=h.step hE ha.symm rfl hlt (by omega) (by omega)
    refine putL_po hE hz f a' _ h3 ?_
    have:ldr c (Y n)+1≤ldr c (meetF E a' n (ldr c (Y n)) Y n):=ldr_low (fun b hb _=>h4 b (by omega)) (by omega)
    omega
theorem put_po (hE:BzE E) (hz:Ech c n Z):PO c n Z (putL E c n (c+1) 0 Z):=putL_po hE hz (c+1) 0 Z (PI.start hz) (by omega)
theorem tnR_at (i:Nat) (Z:Mx) (b:Nat):tnR i Z i b= -Z i b:=by simp [tnR]
theorem tnR_ne {i a:Nat}(Z:Mx) (h:a≠i):tnR i Z a=Z a:=if_neg h
theorem sgn_ne {a:Nat}(Z:Mx) (h:a≠n):sgnR c n Z a=Z a:=by unfold sgnR;split;(· exact tnR_ne Z h);(· rfl)
theorem sgn_ld (Z:Mx) (hl:ldr c (Z n)<c):ldr c (sgnR c n Z n)=ldr c (Z n)∧0<sgnR c n Z n (ldr c (Z n)):=by
 have h0:=ldr_ne hl
 unfold sgnR
 split
 ·rename_i h
  refine⟨ldr_eq (fun j hj=>by rw [tnR_at,ldr_zero hj,Int.neg_zero]) hl (by rw [tnR_at];omega),by rw [tnR_at];omega⟩
 ·exact⟨rfl,by omega⟩
theorem sgn_eqv (Z:Mx):Eqv (n+1) (n+1) c (sgnR c n Z) Z:=by
 unfold sgnR;split
 ·exact tnR_eqv (by omega)
 ·exact Eqv.refl _ _ _
theorem po_ech {R:Bool×Nat×Mx}(h:PO c n Z R) (hz:Ech c n Z) (hy:R.1=true):Ech c (n+1) (mvU n R.2.1 (sgnR c n R.2.2))∧Eqv (n+1) (n+1) c (mvU n R.2.1 (sgnR c n R.2.2)) Z:=by
 obtain⟨hl,h1,h2⟩:=h.yes hy
 obtain⟨h3,h4⟩:=sgn_ld (c:=c) (n:=n) R.2.2 hl
 have han:=h.an
 have hr:∀r,r<n+1→(r<R.2.1→mvU n R.2.1 (sgnR c n R.2.2) r=R.2.2 r)∧(r=R.2.1→mvU n R.2.1 (sgnR c n R.2.2) r=sgnR c n R.2.2 n)∧(R.2.1<r→mvU n R.2.1 (sgnR c n R.2.2) r=R.2.2 (r-1)):=fun r hr=>by
  unfold mvU
  refine⟨fun e=>by rw [if_neg (by omega),if_neg (by omega),sgn_ne _ (by omega)],fun e=>by rw [if_pos e],fun e=>by rw [if_neg (by omega),if_pos (by omega),sgn_ne _ (by omega)]⟩
 generalize mvU n R.2.1 (sgnR c n R.2.2)=X at*
 refine⟨⟨fun i hi=>?_,fun i k hik hk=>?_,fun i hi=>?_⟩,?_⟩
 ·rcases Nat.lt_trichotomy i R.2.1 with e | e | e
  ·rw [(hr i hi).1 e,h.ld i (by omega)];exact hz.lt i (by omega)
  ·rw [(hr i hi).2.1 e,h3];exact hl
  ·rw [(hr i hi).2.2 e,h.ld _ (by omega)];exact hz.lt _ (by omega)
 ·rcases Nat.lt_trichotomy i R.2.1 with e | e | e
  ·rw [(hr i (by omega)).1 e]
   rcases Nat.lt_trichotomy k R.2.1 with e2 | e2 | e2
   ·rw [(hr k hk).1 e2,h.ld i (by omega),h.ld k (by omega)];exact hz.up i k hik (by omega)
   ·rw [(hr k hk).2.1 e2,h3];exact h1 i e
   ·rw [(hr k hk).2.2 e2,h.ld i (by omega),h.ld (k-1) (by omega)];exact hz.up i (k-1) (by omega) (by omega)
  ·rw [(hr i (by omega)).2.1 e,(hr k hk).2.2 (by omega),h3];exact h2 (k-1) (by omega) (by omega)
  ·rw [(hr i (by omega)).2.2 e,(hr k hk).2.2 (by omega),h.ld _ (by omega),h.ld _ (by omega)];exact hz.up _ _ (by omega) (by omega)
 ·rcases Nat.lt_trichotomy i R.2.1 with e | e | e
  ·rw [(hr i hi).1 e];exact h.pos i (by omega)
  ·rw [(hr i hi).2.1 e,h3];exact h4
  ·rw [(hr i hi).2.2 e];exact h.pos _ (by omega)
 ·have:Eqv (n+1) (n+1) c X R.2.2:=by
   have h5:Eqv (n+1) (n+1) c (mvU n R.2.1 (sgnR c n R.2.2)) (sgnR c n R.2.2):=mvU_eqv han (by omega)
   refine ((?_:Eqv (n+1) (n+1) c X (mvU n R.2.1 (sgnR c n R.2.2))).trans h5).trans (sgn_eqv _)
   refine perm_eqv id id (fun _ h=>h) (fun _ h=>h) (fun r hr2=>?_) (fun r hr2=>?_)
   all_goals
    unfold mvU
    rcases Nat.lt_trichotomy r R.2.1 with e | e | e
    ·simp only [id];rw [(hr r hr2).1 e,if_neg (by omega),if_neg (by omega),sgn_ne _ (by omega)]
    ·simp only [id];rw [(hr r hr2).2.1 e,if_pos e]
    ·simp only [id];rw [(hr r hr2).2.2 e,if_neg (by omega),if_pos (by omega),sgn_ne _ (by omega)]
  exact this.trans h.eqv
end
section
variable {c n d p:Nat}{Z Y A:Mx}
theorem Eqv.more (h:Eqv d p c Z A) (e:∀b,b<c→Z d b=A p b):Eqv (d+1) (p+1) c Z A:=by
 refine⟨fun i hi=>?_,fun i hi=>?_⟩
 ·by_cases ei:i=d
  ·subst ei;exact (Spn.row (Z:=A) (Nat.lt_succ_self p)).congr e
  ·obtain⟨x,hx⟩:=h.fw i (by omega)
   refine⟨fun k=>if k<p then x k else 0,fun j hj=>?_⟩
   rw [hx j hj]
   simp only [sm]
   rw [if_neg (Nat.lt_irrefl p),Int.zero_mul,Int.add_zero]
   exact sm_congr fun k hk=>by rw [if_pos hk]
 ·by_cases ei:i=p
  ·subst ei;exact (Spn.row (Z:=Z) (Nat.lt_succ_self d)).congr fun b hb=>(e b hb).symm
  ·obtain⟨x,hx⟩:=h.fro i (by omega)
   refine⟨fun k=>if k<d then x k else 0,fun j hj=>?_⟩
   rw [hx j hj]
   simp only [sm]
   rw [if_neg (Nat.lt_irrefl d),Int.zero_mul,Int.add_zero]
   exact sm_congr fun k hk=>by rw [if_pos hk]
theorem Spn.up {v:Nat→Int}(h:Spn d c Z v):Spn (d+1) c Z v:=by
 obtain⟨x,hx⟩:=h
 refine⟨fun k=>if k<d then x k else 0,fun j hj=>?_⟩
 rw [hx j hj]
 simp only [sm]
 rw [if_neg (Nat.lt_irrefl d),Int.zero_mul,Int.add_zero]
 exact sm_congr fun k hk=>by rw [if_pos hk]
theorem Spn.rows {v:Nat→Int}(h:Spn d c Z v) (e:∀i,i<d→∀b,b<c→Z i b=Y i b):Spn d c Y v:=by
 obtain⟨x,hx⟩:=h
 exact⟨x,fun j hj=>by rw [hx j hj];exact sm_congr fun k hk=>by rw [e k hk j hj]⟩
theorem Eqv.zero (h:∀b,b<c→Z d b=0):Eqv d (d+1) c Z Z:=
 ⟨fun i hi=>Spn.row (by omega),fun i hi=>by
  by_cases e:i=d
  ·subst e;exact Spn.zero.congr h
  ·exact Spn.row (by omega)⟩
theorem Eqv.same (e:∀i,i<d→∀b,b<c→Z i b=Y i b):Eqv d d c Z Y:=
 ⟨fun i hi=>(Spn.row (Z:=Y) hi).congr (e i hi),fun i hi=>(Spn.row (Z:=Z) hi).congr fun b hb=>(e i hi b hb).symm⟩
theorem Ech.same (h:Ech c d Z) (e:∀i,i<d→∀b,b<c→Z i b=Y i b):Ech c d Y:=by
 have hl:∀i,i<d→ldr c (Y i)=ldr c (Z i):=fun i hi=>ldr_congr fun j hj=>(e i hi j hj).symm
 exact⟨fun i hi=>by rw [hl i hi];exact h.lt i hi,fun i k h1 h2=>by rw [hl i (by omega),hl k h2];exact h.up i k h1 h2,fun i hi=>by rw [hl i hi,←e i hi _ (h.lt i hi)];exact h.pos i hi⟩
theorem Hf.same (h:Hf c d Z) (e:∀i,i<d→∀b,b<c→Z i b=Y i b):Hf c d Y:=by
 have hl:∀i,i<d→ldr c (Y i)=ldr c (Z i):=fun i hi=>ldr_congr fun j hj=>(e i hi j hj).symm
 exact⟨h.toEch.same e,fun i k h1 h2=>by rw [hl k h2,←e k h2 _ (h.lt k h2),←e i (by omega) _ (h.lt k h2)];exact h.red i k h1 h2⟩
end
structure Rin (A:Mx) (N c d e:Nat) (Z:Mx):Prop where
 de:d≤e
 eN:e≤N
 un:∀t,d+t<e→Z (d+t)=A (N-(e-d)+t)
 ze:∀r,e≤r→r<N→∀b,b<c→Z r b=0
 hf:Hf c d Z
 eqv:Eqv d (N-(e-d)) c Z A
 ind:∃is:Nat→Nat,(∀i,i<d→is i<N-(e-d))∧∀i,i<N-(e-d)→Qsp d c (fun k=>A (is k)) (A i)
theorem Rin.start (A:Mx) (N c:Nat):Rin A N c 0 N A:=
 ⟨Nat.zero_le _,Nat.le_refl _,fun t _=>by rw [Nat.sub_zero,Nat.sub_self],fun r h1 h2=>by omega,⟨⟨fun i h=>absurd h (Nat.not_lt_zero i),fun i k _ h=>absurd h (Nat.not_lt_zero k),fun i h=>absurd h (Nat.not_lt_zero i)⟩,fun i k _ h=>absurd h (Nat.not_lt_zero k)⟩,
  ⟨fun i h=>absurd h (Nat.not_lt_zero i),fun i h=>by rw [Nat.sub_zero,Nat.sub_self] at h;exact absurd h (Nat.not_lt_zero i)⟩,fun _=>0,fun i h=>absurd h (Nat.not_lt_zero i),fun i h=>by rw [Nat.sub_zero,Nat.sub_self] at h;exact absurd h (Nat.not_lt_zero i)⟩
section
variable {E:Int→Int→Int×Int}{A Z:Mx}{N c d e:Nat}
theorem put_up {r:Nat}(h:PO c d Z (putL E c d (c+1) 0 Z)) (hr:d<r):putF E c d Z r=Z r:=by
 unfold putF
 have han:=h.an
 split
 ·unfold stl
  rw [ssS_up _ _ (by omega) _ (Nat.le_refl _)]
  unfold mvU
  rw [if_neg (by omega),if_neg (by omega),sgn_ne _ (by omega)]
  exact h.up r hr
 ·unfold stl
  rw [ssS_up _ _ (by omega) _ (Nat.le_refl _)]
  exact h.up r hr
theorem Rin.yes (hE:BzE E) (h:Rin A N c d e Z) (hde:d<e) (hb:putB E c d Z=true):Rin A N c (d+1) e (putF E c d Z):=by
 have hpo:=put_po hE h.hf.toEch
 have heN:=h.eN
 obtain⟨h1,h2⟩:=po_ech hpo h.hf.toEch hb
 have e0:putF E c d Z=stl c (d+1) (mvU d (putL E c d (c+1) 0 Z).2.1 (sgnR c d (putL E c d (c+1) 0 Z).2.2)):=by
  unfold putF;rw [if_pos (show (putL E c d (c+1) 0 Z).1=true from hb)]
 obtain⟨h3,h4⟩:=stl_hf h1
 have hp:N-(e-(d+1))=N-(e-d)+1:=by omega
 have hzd:Z d=A (N-(e-d)):=by have:=h.un 0 (by omega);rwa [Nat.add_zero,Nat.add_zero] at this
 refine⟨hde,heN,fun t ht=>?_,fun r h5 h6 b hb'=>?_,by rw [e0];exact h3,?_,?_⟩
 ·rw [put_up hpo (by omega),hp,show d+1+t=d+(t+1) by omega,h.un (t+1) (by omega)]
  congr 1;omega
 ·rw [put_up hpo (by omega)];exact h.ze r h5 h6 b hb'
 ·rw [hp,e0]
  exact (h4.trans h2).trans (h.eqv.more fun b _=>by rw [hzd])
 ·rw [hp]
  obtain⟨is,hi,hq⟩:=h.ind
  refine⟨fun i=>if i=d then N-(e-d) else is i,fun i hid=>?_,fun i hip=>?_⟩
  ·by_cases ei:i=d
   ·simp only [if_pos ei];omega
   ·simp only [if_neg ei];have:=hi i (by omega);omega
  ·by_cases ei:i=N-(e-d)
   ·subst ei
    have:=Spn.row (c:=c) (Z:=fun k=>A (if k=d then N-(e-d) else is k)) (Nat.lt_succ_self d)
    simp only [if_pos] at this
    exact this.q
   ·obtain⟨s,hs,hx⟩:=hq i (by omega)
    exact⟨s,hs,(hx.rows fun k hk b _=>by simp only;rw [if_neg (by omega)]).up⟩
theorem Rin.no (hE:BzE E) (h:Rin A N c d e Z) (hde:d<e) (hb:putB E c d Z=false):Rin A N c d (e-1) (mvD d (e-1) (putF E c d Z)):=by
 have hpo:=put_po hE h.hf.toEch
 have heN:=h.eN
 obtain⟨h1,h2⟩:=hpo.no hb
 have e0:putF E c d Z=stl c d (putL E c d (c+1) 0 Z).2.2:=by
  unfold putF;rw [if_neg (by unfold putB at hb;rw [hb];decide)]
 have hech:Ech c d (putL E c d (c+1) 0 Z).2.2:=
  ⟨fun i hi=>by rw [hpo.ld i hi];exact h.hf.lt i hi,fun i k hik hk=>by rw [hpo.ld i (by omega),hpo.ld k hk];exact h.hf.up i k hik hk,hpo.pos⟩
 obtain⟨h3,h4⟩:=stl_hf hech
 have hup:=fun r (hr:d<r)=>put_up (E:=E) (r:=r) hpo hr
 have hzr:∀b,b<c→putF E c d Z d b=0:=fun b hb'=>by
  rw [e0];unfold stl;rw [ssS_up _ _ (Nat.le_refl _) _ (Nat.le_refl _)];exact h1 b hb'
 have hp:N-(e-1-d)=N-(e-d)+1:=by omega
 have hzd:Z d=A (N-(e-d)):=by have:=h.un 0 (by omega);rwa [Nat.add_zero,Nat.add_zero] at this
 have hlow:∀i,i<d→mvD d (e-1) (putF E c d Z) i=putF E c d Z i:=fun i hi=>by unfold mvD;rw [if_neg (by omega),if_neg (by omega)]
 refine⟨by omega,by omega,fun t ht=>?_,fun r h5 h6 b hb'=>?_,?_,?_,?_⟩
 ·unfold mvD
  rw [if_neg (by omega),if_pos (by omega),hup _ (by omega),hp,show d+t+1=d+(t+1) by omega,h.un (t+1) (by omega)]
  congr 1;omega
 ·unfold mvD
  by_cases er:r=e-1
  ·rw [if_pos er];exact hzr b hb'
  ·rw [if_neg er,if_neg (by omega),hup _ (by omega)];exact h.ze r (by omega) h6 b hb'
 ·refine Hf.same (Z:=putF E c d Z) (by rw [e0];exact h3) fun i hi b _=>by rw [hlow i hi]
 ·rw [hp]
  have g1:Eqv d d c (mvD d (e-1) (putF E c d Z)) (putF E c d Z):=Eqv.same fun i hi b _=>by rw [hlow i hi]
  have g2:Eqv d d c (putF E c d Z) (putL E c d (c+1) 0 Z).2.2:=by rw [e0];exact h4
  exact (((g1.trans g2).trans (Eqv.zero h1)).trans hpo.eqv).trans (h.eqv.more fun b _=>by rw [hzd])
 ·rw [hp]
  obtain⟨is,hi,hq⟩:=h.ind
  refine⟨is,fun i hid=>by have:=hi i hid;omega,fun i hip=>?_⟩
  by_cases ei:i=N-(e-d)
  ·subst ei
   rw [←hzd]
   exact h2.trans fun k hk=>(h.eqv.fw k hk).qs hq
  ·exact hq i (by omega)
theorem Rin.both (h:Rin A N c d e Z):∃is:Nat→Nat,(∀i,i<d→is i<N)∧(∀i,i<d→Qsp d c (fun k=>A (is k)) (Z i))∧Sub d d c (fun k=>A (is k)) Z:=by
 obtain⟨is,hi,hq⟩:=h.ind
 have heN:=h.eN
 exact⟨is,fun i hid=>by have:=hi i hid;omega,fun i hid=>(h.eqv.fw i hid).qs hq,fun i hid=>h.eqv.fro _ (hi i hid)⟩
theorem Rin.still {r:Nat}(h:Rin A N c d e Z) (hA:Hf c r A) (hr:r≤N) (h0:∀i,r≤i→i<N→∀b,b<c→A i b=0):∀i,i<d→∀b,b<c→Z i b=A i b:=by
 obtain⟨q,hq⟩:∃q,q=min r (N-(e-d)):=⟨_,rfl⟩
 have h1:Hf c q A:=⟨⟨fun i hi=>hA.lt i (by omega),fun i k h1 h2=>hA.up i k h1 (by omega),fun i hi=>hA.pos i (by omega)⟩,fun i k h1 h2=>hA.red i k h1 (by omega)⟩
 have h2:Eqv q (N-(e-d)) c A A:=⟨fun i hi=>Spn.row (by omega),fun i hi=>by
  rcases Nat.lt_or_ge i r with hir | hir
  ·exact Spn.row (by omega)
  ·exact Spn.zero.congr fun b hb=>h0 i hir (by omega) b hb⟩
 obtain⟨_,h4⟩:=h.hf.uniq h1 (h.eqv.trans h2.symm)
 exact h4
end
end Go.Proofs.YtnpbbknemflpnaaGreat

namespace Go.Proofs.YtnpbbknemflpnaaGreat
open Go.RowKit
def VObs (P:Program) (n:Nat) (ol:List Oper) (vs:List Value) (w0:World) (dss:List (List Nat)) (l:Fr):List Nat→Prop
 | []=>True
 | i::r=>(match ol[i]? with
  | some o=>∀w,Ext w0 w→RunD P n (dfr ol vs l (rch dss i)) o w (.value ((vs[i]?).getD undef)) w
  | none=>True)∧VObs P n ol vs w0 dss l r
def TwB (ol:List Oper) (T:TypeId) (zs us:List Value) (j s:Nat) (w0:World) (listed:Array Bool) (a:Act) (w:World) (g:Nat):Prop:=
 listed.getD j false=true→slotv a (dstOf ol j)= .pointer (some ⟨g,0,none⟩)∧w0.heap.size≤g∧Bk w g T (if listed.getD s false=true then us else zs)
def TwI (n:Nat) (ol:List Oper) (l:Fr) (vs:List Value) (T:TypeId) (zs us1 us2:List Value) (j1 s1 j2 s2:Nat) (w0:World) (listed:Array Bool) (a:Act) (w:World):Prop:=
 Rp n l a∧Ext w0 w∧(∀i,i<ol.length→i≠j1→i≠j2→listed.getD i false=true→∀d,dstOf ol i=some d→a.tmps.getD d undef=(vs[i]?).getD undef)∧
 ∃g1 g2,TwB ol T zs us1 j1 s1 w0 listed a w g1∧TwB ol T zs us2 j2 s2 w0 listed a w g2∧(listed.getD j1 false=true→listed.getD j2 false=true→g1≠g2)
def Fills (P:Program) (n:Nat) (ol:List Oper) (vs:List Value) (w0:World) (l:Fr) (T:TypeId) (zs us:List Value) (j s k:Nat):Prop:=
 match ol[s]? with
 | some o=>∀w g,Ext w0 w→Bk w g T zs→∃w',RunD P n (putl (dstOf ol j) (.pointer (some ⟨g,0,none⟩)) (putl (dstOf ol k) ((vs[k]?).getD undef) l)) o w .skip w'∧Bk w' g T us∧Upd g w w'
 | none=>False
def Makes (P:Program) (n:Nat) (ol:List Oper) (l:Fr) (T:TypeId) (zs:List Value) (j:Nat):Prop:=
 match ol[j]? with
 | some o=>∀w,RunD P n l o w (.value (.pointer (some ⟨w.heap.size,0,none⟩))) (w.alloc (.cells zs.toArray T))
 | none=>False
def twOk (N:Nat) (dss rl:List (List Nat)) (j1 s1 k1 j2 s2 k2:Nat) (is:List Nat):Bool:=
 (List.range N).all (fun i=>i==j1||i==j2||i==s1||i==s2||is.contains i)&&(List.range N).all (fun i=> !(rch dss i).contains j1&& !(rch dss i).contains j2)&&decide (j1<N)&&decide (j2<N)&&decide (k1<N)&&decide (k2<N)&&decide (s1<N)&&decide (s2<N)&&
 (rch rl s1).contains j1&&(rch rl s1).contains k1&&(rch rl s2).contains j2&&(rch rl s2).contains k2&&decide (j1≠j2)&&decide (s1≠s2)&&decide (j1≠s1)&&decide (j1≠s2)&&decide (j2≠s1)&&decide (j2≠s2)&&decide (k1≠j1)&&decide (k1≠j2)&&decide (k2≠j1)&&decide (k2≠j2)
section
variable {P:Program}{Q:Exit→Act→World→Prop}{n:Nat}{ol:List Oper}{vs:List Value}{w0 w:World}{dss rl:List (List Nat)}{l:Fr}{ps:List (Nat×Nat)}{T:TypeId}{zs us1 us2:List Value}{j1 j2 s1 s2 k1 k2:Nat}{st:List Nat}{listed:Array Bool}{a:Act}
theorem TwI.swap (h:TwI n ol l vs T zs us1 us2 j1 s1 j2 s2 w0 listed a w):TwI n ol l vs T zs us2 us1 j2 s2 j1 s1 w0 listed a w:=by
 obtain⟨h1,h2,h3,g1,g2,h4,h5,h6⟩:=h
 exact⟨h1,h2,fun i hi h h'=>h3 i hi h' h,g2,g1,h5,h4,fun h h' e=>h6 h' h e.symm⟩
theorem slot_other {i j d:Nat}{o:Oper}(hk:DetOk n ol st l dss rl ps) (ho:ol[i]?=some o) (hd:o.dst=some d) (hij:i≠j) (v:Value):slotv (a.put (some d) v) (dstOf ol j)=slotv a (dstOf ol j):=by
 obtain⟨_,hdn,hfar,hoth⟩:=hk.val i o ho d hd
 refine slotv_far ?_ v
 unfold dstOf
 cases hoj:ol[j]? with
 | none=>intro h;cases h
 | some oj=>exact hoth j oj hoj (Ne.symm hij)
theorem TwB.far {i j s d g:Nat}{us:List Value}{o:Oper}(hk:DetOk n ol st l dss rl ps) (h:TwB ol T zs us j s w0 listed a w g) (ho:ol[i]?=some o) (hd:o.dst=some d) (hij:i≠j) (his:i≠s) (v:Value){w':World}(e:Ext w w'):TwB ol T zs us j s w0 (listed.setIfInBounds i true) (a.put (some d) v) w' g:=by
 intro hl
 rw [Go.getD_set_ne false hij] at hl
 obtain⟨h1,h2,h3⟩:=h hl
 refine⟨(slot_other hk ho hd hij v).trans h1,h2,?_⟩
 rw [Go.getD_set_ne false his]
 exact h3.ext e
theorem vals_far {i d:Nat}{o:Oper}(hk:DetOk n ol st l dss rl ps) (h:∀i,i<ol.length→i≠j1→i≠j2→listed.getD i false=true→∀d,dstOf ol i=some d→a.tmps.getD d undef=(vs[i]?).getD undef) (ho:ol[i]?=some o) (hd:o.dst=some d) (hs:a.tmps.size=n){v:Value}(hv:i≠j1→i≠j2→v=(vs[i]?).getD undef):
  ∀k,k<ol.length→k≠j1→k≠j2→(listed.setIfInBounds i true).getD k false=true→∀e,dstOf ol k=some e→(a.put (some d) v).tmps.getD e undef=(vs[k]?).getD undef:=by
 intro k hk' h1 h2 hl e he
 obtain⟨_,hdn,hfar,hoth⟩:=hk.val i o ho d hd
 by_cases hik:i=k
 ·subst hik
  have e1:dstOf ol i=some d:=by unfold dstOf;rw [ho];exact hd
  rw [e1] at he
  cases he
  exact (slotv_put hs hdn v).trans (hv h1 h2)
 ·rw [Go.getD_set_ne false hik] at hl
  have:=slot_other (a:=a) hk ho hd hik v
  rw [he] at this
  exact this.trans (h k hk' h1 h2 hl e he)
theorem TwI.val {i d:Nat}{o:Oper}(hk:DetOk n ol st l dss rl ps) (h:TwI n ol l vs T zs us1 us2 j1 s1 j2 s2 w0 listed a w) (ho:ol[i]?=some o) (hd:o.dst=some d) (h1:i≠j1) (h2:i≠j2) (h3:i≠s1) (h4:i≠s2):
  TwI n ol l vs T zs us1 us2 j1 s1 j2 s2 w0 (listed.setIfInBounds i true) (a.put (some d) ((vs[i]?).getD undef)) w:=by
 obtain⟨hr,hx,hv,g1,g2,b1,b2,hne⟩:=h
 refine⟨hr.put_far (hk.val i o ho d hd).2.2.1 _,hx,vals_far hk hv ho hd hr.size (fun _ _=>rfl),g1,g2,b1.far hk ho hd h1 h3 _ (Ext.refl w),b2.far hk ho hd h2 h4 _ (Ext.refl w),fun e1 e2=>?_⟩
 rw [Go.getD_set_ne false h1] at e1
 rw [Go.getD_set_ne false h2] at e2
 exact hne e1 e2
theorem TwI.new {d:Nat}{o:Oper}(hk:DetOk n ol st l dss rl ps) (h:TwI n ol l vs T zs us1 us2 j1 s1 j2 s2 w0 listed a w) (ho:ol[j1]?=some o) (hd:o.dst=some d) (hs1:listed.getD s1 false=false) (h2:j1≠j2) (h3:j1≠s1) (h4:j1≠s2):
  TwI n ol l vs T zs us1 us2 j1 s1 j2 s2 w0 (listed.setIfInBounds j1 true) (a.put (some d) (.pointer (some ⟨w.heap.size,0,none⟩))) (w.alloc (.cells zs.toArray T)):=by
 obtain⟨hr,hx,hv,g1,g2,b1,b2,hne⟩:=h
 refine⟨hr.put_far (hk.val j1 o ho d hd).2.2.1 _,hx.alloc _,vals_far hk hv ho hd hr.size (fun h _=>absurd rfl h),w.heap.size,g2,fun _=>⟨?_,hx.size,?_⟩,b2.far hk ho hd h2 h4 _ ((Ext.refl w).alloc _),fun _ e2=>?_⟩
 ·have e1:dstOf ol j1=some d:=by unfold dstOf;rw [ho];exact hd
  rw [e1]
  exact slotv_put hr.size (hk.val j1 o ho d hd).2.1 _
 ·rw [Go.getD_set_ne false h3,hs1]
  exact Bk.new w T zs
 ·rw [Go.getD_set_ne false h2] at e2
  have:=(b2 e2).2.2.lt
  omega
theorem TwI.fill {g:Nat}{w':World}(h:TwI n ol l vs T zs us1 us2 j1 s1 j2 s2 w0 listed a w) (hj:listed.getD j1 false=true) (hg:slotv a (dstOf ol j1)= .pointer (some ⟨g,0,none⟩)) (hb:Bk w' g T us1) (hu:Upd g w w') (hN:s1<listed.size) (_h1:s1≠j1) (h2:s1≠j2) (h3:s1≠s2) (hd:dstOf ol s1=none):
  TwI n ol l vs T zs us1 us2 j1 s1 j2 s2 w0 (listed.setIfInBounds s1 true) a w':=by
 obtain⟨hr,hx,hv,g1,g2,b1,b2,hne⟩:=h
 obtain⟨c1,c2,c3⟩:=b1 hj
 have hgg:g=g1:=by
  rw [hg] at c1
  injection c1 with c1
  injection c1 with c1
  injection c1
 subst hgg
 refine⟨hr,hu.ext hx c2,fun i hi e1 e2 hl d hd'=>?_,g,g2,fun _=>⟨c1,c2,?_⟩,fun e2=>?_,fun e1 e2=>?_⟩
 ·by_cases his:s1=i
  ·subst his;rw [hd] at hd';cases hd'
  ·rw [Go.getD_set_ne false his] at hl
   exact hv i hi e1 e2 hl d hd'
 ·rw [if_pos (by simp [hN])];exact hb
 ·rw [Go.getD_set_ne false h2] at e2
  obtain⟨d1,d2,d3⟩:=b2 e2
  rw [Go.getD_set_ne false h3]
  exact⟨d1,d2,d3.upd hu (fun e=>hne hj e2 e.symm)⟩
 ·rw [Go.getD_set_ne false h2] at e2
  exact hne hj e2
theorem vobs_get {is:List Nat}(h:VObs P n ol vs w0 dss l is):∀i∈is,∀o,ol[i]?=some o→∀w,Ext w0 w→RunD P n (dfr ol vs l (rch dss i)) o w (.value ((vs[i]?).getD undef)) w:=by
 induction is with
 | nil=>intro i hi;cases hi
 | cons k r ih=>
  intro i hi o ho
  rcases List.mem_cons.1 hi with e | e
  ·subst e
   have:=h.1
   rw [ho] at this
   exact this
  ·exact ih h.2 i e o ho
def TwEnd (Q:Exit→Act→World→Prop) (n:Nat) (ol:List Oper) (vs:List Value) (l:Fr) (w0:World) (T:TypeId) (us1 us2:List Value) (j1 j2:Nat) (is:List Nat):Prop:=
 ∀g1 g2 w,Ext w0 w→g1≠g2→w0.heap.size≤g1→w0.heap.size≤g2→Bk w g1 T us1→Bk w g2 T us2→eo Q .normal n (putl (dstOf ol j1) (.pointer (some ⟨g1,0,none⟩)) (putl (dstOf ol j2) (.pointer (some ⟨g2,0,none⟩)) (dfr ol vs l is))) w
theorem twin_any {is:List Nat}(hk:DetOk n ol [s1,s2] l dss rl ps) (ht:twOk ol.length dss rl j1 s1 k1 j2 s2 k2 is=true) (hj1:j1 ∉ is) (hj2:j2 ∉ is) (his:∀i∈is,i<ol.length) (hv:VObs P n ol vs w0 dss l is) (hm1:Makes P n ol l T zs j1) (hm2:Makes P n ol l T zs j2)
  (hf1:Fills P n ol vs w0 l T zs us1 j1 s1 k1) (hf2:Fills P n ol vs w0 l T zs us2 j2 s2 k2) (hfin:TwEnd Q n ol vs l w0 T us1 us2 j1 j2 is):
  ∀(fuel:Nat) (listed:Array Bool) (a:Act) (w:World),unl ol.length listed≤fuel→listed.size=ol.length→Closed ol listed→TwI n ol l vs T zs us1 us2 j1 s1 j2 s2 w0 listed a w→wpAny P .any ol.toArray Q fuel listed a w:=by
 simp only [twOk,Bool.and_eq_true,decide_eq_true_eq,List.contains_iff_mem,ne_eq] at ht
 obtain⟨⟨⟨⟨⟨⟨⟨⟨⟨⟨⟨⟨⟨⟨⟨⟨⟨⟨⟨⟨⟨hall0,hnd⟩,l1⟩,l2⟩,l3⟩,l4⟩,l5⟩,l6⟩,r1⟩,r2⟩,r3⟩,r4⟩,n1⟩,n2⟩,n3⟩,n4⟩,n5⟩,n6⟩,n7⟩,n8⟩,n9⟩,n10⟩:=ht
 rw [List.all_eq_true] at hall0 hnd
 have fin:∀(listed:Array Bool) (a:Act) (w:World),(∀i,i<ol.length→listed.getD i false=true)→TwI n ol l vs T zs us1 us2 j1 s1 j2 s2 w0 listed a w→Q .normal a w:=by
  intro listed a w hall h
  obtain⟨hr,hx,hval,g1,g2,b1,b2,hne⟩:=h
  obtain⟨c1,c2,c3⟩:=b1 (hall _ l1)
  obtain⟨d1,d2,d3⟩:=b2 (hall _ l2)
  rw [if_pos (hall _ l5)] at c3
  rw [if_pos (hall _ l6)] at d3
  have hr1:Rp n (dfr ol vs l is) a:=hr.dfr is fun j hj d hd=>hval j (his j hj) (fun e=>hj1 (e▸hj)) (fun e=>hj2 (e▸hj)) (hall j (his j hj)) d hd
  refine hfin g1 g2 w hx (hne (hall _ l1) (hall _ l2)) c2 d2 c3 d3 a ?_
  have key:∀{l':Fr}{j:Nat}{v:Value},Rp n l' a→slotv a (dstOf ol j)=v→Rp n (putl (dstOf ol j) v l') a:=by
   intro l' j v h1 h2
   cases hd:dstOf ol j with
   | none=>exact h1
   | some d=>rw [hd] at h2;exact h1.cons h2
  exact key (key hr1 d1) c1
 intro fuel
 induction fuel with
 | zero=>
  intro listed a w hf hs hcl hI
  have hall:∀i,i<ol.length→listed.getD i false=true:=by
   intro i hi
   cases h:listed.getD i false with
   | true=>rfl
   | false=>have:=unl_set hi hs h;omega
  refine⟨?_,fin listed a w hall hI⟩
  refine List.eq_nil_iff_forall_not_mem.2 fun j hj=>?_
  obtain⟨h1,o,hoj,_⟩:=ready_iff.1 hj
  have hjl:j<ol.length:=(List.getElem?_eq_some_iff.1 hoj).1
  rw [getD_tf (by omega),hall j hjl] at h1
  cases h1
 | succ fuel ih=>
  intro listed a w hf hs hcl hI
  refine⟨fun h0=>?_,fun i hir=>?_⟩
  ·refine fin listed a w (fun i hi=>?_) hI
   have key:∀k,k≤ol.length→∀i,i<k→listed.getD i false=true:=by
    intro k
    induction k with
    | zero=>intro _ i hi;omega
    | succ k ihk=>
     intro hk' i hi
     have ih':=ihk (by omega)
     rcases Nat.lt_or_ge i k with h | h
     ·exact ih' i h
     ·have e:i=k:=by omega
      subst e
      cases hb:listed.getD i false with
      | true=>rfl
      | false=>
       have hrdy:i∈Region.ready .any ol.toArray listed:=ready_iff.2 ⟨by rw [getD_tf (by omega)];exact hb,_,List.getElem?_eq_getElem (by omega),fun e he hbb=>ih' _ (hk.back i _ (List.getElem?_eq_getElem (by omega)) e he hbb)⟩
       rw [h0] at hrdy;cases hrdy
   exact key ol.length (Nat.le_refl _) i hi
  ·obtain⟨hun,o,hoi,hall⟩:=ready_iff.1 hir
   have hil:i<ol.length:=(List.getElem?_eq_some_iff.1 hoi).1
   have hun':listed.getD i false=false:=by rw [←getD_tf (by omega)];exact hun
   have hrch:=closed_reach hk hcl i o hoi hall
   have hwant:Region.wanted o (yielded ol.toArray a.tmps)=true:=by simp [Region.wanted,hk.guard i o hoi]
   have hu:=unl_set hil hs hun'
   have notyet:∀s,s<ol.length→i∈rch rl s→listed.getD s false=false:=by
    intro s hsl hm
    cases hb:listed.getD s false with
    | false=>rfl
    | true=>
     have:=closed_reach hk hcl s _ (List.getElem?_eq_getElem hsl) (fun e he hbb=>hcl s _ (List.getElem?_eq_getElem hsl) hb e he hbb) i hm
     rw [hun'] at this;cases this
   have hr:=hI.1
   have hx:=hI.2.1
   have hval:=hI.2.2.1
   unfold wpOp
   rw [arr_get,hoi]
   simp only
   rw [if_pos hwant]
   refine Or.inl ?_
   unfold Oper.wp
   have hdst:i≠s1→i≠s2→∃d,o.dst=some d:=fun e1 e2=>by
    cases hd:o.dst with
    | none=>
     have:=hk.sto i o hoi hd
     simp at this
     rcases this with h | h
     ·exact absurd h e1
     ·exact absurd h e2
    | some d=>exact⟨d,rfl⟩
   have hnone:i∈ [s1,s2]→o.dst=none:=fun hm=>by
    cases hd:o.dst with
    | none=>rfl
    | some d=>exact absurd hm (hk.val i o hoi d hd).1
   have putRp:∀{l':Fr}{k:Nat}{v:Value},Rp n l' a→(∀d,dstOf ol k=some d→a.tmps.getD d undef=v)→Rp n (putl (dstOf ol k) v l') a:=by
    intro l' k v h1 h2
    cases hd:dstOf ol k with
    | none=>exact h1
    | some d=>exact h1.cons (h2 d hd)
   by_cases e1:i=j1
   ·subst e1
    obtain⟨d,hd⟩:=hdst n3 n4
    unfold Makes at hm1
    rw [hoi] at hm1
    rw [hm1 w a hr]
    simp only [Oper.upon,hd]
    exact ih _ _ _ (by omega) (by simpa using hs) (hcl.set hoi hall) (hI.new hk hoi hd (notyet s1 l5 r1) n1 n3 n4)
   by_cases e2:i=j2
   ·subst e2
    obtain⟨d,hd⟩:=hdst n5 n6
    unfold Makes at hm2
    rw [hoi] at hm2
    rw [hm2 w a hr]
    simp only [Oper.upon,hd]
    exact ih _ _ _ (by omega) (by simpa using hs) (hcl.set hoi hall) ((hI.swap.new hk hoi hd (notyet s2 l6 r3) (Ne.symm n1) n6 n5).swap)
   by_cases e3:i=s1
   ·subst e3
    have hd:=hnone (by simp)
    unfold Fills at hf1
    rw [hoi] at hf1
    obtain⟨g1,g2,b1,b2,hne⟩:=hI.2.2.2
    obtain⟨c1,c2,c3⟩:=b1 (hrch _ r1)
    rw [if_neg (by rw [hun'];exact Bool.false_ne_true)] at c3
    obtain⟨w',h1,h2,h3⟩:=hf1 w _ hx c3
    have hk1:Rp n (putl (dstOf ol k1) ((vs[k1]?).getD undef) l) a:=putRp hr fun d hdd=>hval k1 l3 n7 n8 (hrch _ r2) d hdd
    rw [h1 a (putRp hk1 fun d hdd=>by rw [hdd] at c1;exact c1)]
    simp only [Oper.upon,hd]
    exact ih _ _ _ (by omega) (by simpa using hs) (hcl.set hoi hall) (hI.fill (hrch _ r1) c1 h2 h3 (by omega) (Ne.symm n3) (Ne.symm n5) n2 (by unfold dstOf;rw [hoi];exact hd))
   by_cases e4:i=s2
   ·subst e4
    have hd:=hnone (by simp)
    unfold Fills at hf2
    rw [hoi] at hf2
    obtain⟨g1,g2,b1,b2,hne⟩:=hI.2.2.2
    obtain⟨c1,c2,c3⟩:=b2 (hrch _ r3)
    rw [if_neg (by rw [hun'];exact Bool.false_ne_true)] at c3
    obtain⟨w',h1,h2,h3⟩:=hf2 w _ hx c3
    have hk1:Rp n (putl (dstOf ol k2) ((vs[k2]?).getD undef) l) a:=putRp hr fun d hdd=>hval k2 l4 n9 n10 (hrch _ r4) d hdd
    rw [h1 a (putRp hk1 fun d hdd=>by rw [hdd] at c1;exact c1)]
    simp only [Oper.upon,hd]
    exact ih _ _ _ (by omega) (by simpa using hs) (hcl.set hoi hall) ((hI.swap.fill (hrch _ r3) c1 h2 h3 (by omega) (Ne.symm n6) (Ne.symm n4) (Ne.symm n2) (by unfold dstOf;rw [hoi];exact hd)).swap)
   have hmem:i∈is:=by
    have:=hall0 i (List.mem_range.2 hil)
    simp only [Bool.or_eq_true,beq_iff_eq,List.contains_iff_mem] at this
    rcases this with (((h | h) | h) | h) | h
    ·exact absurd h e1
    ·exact absurd h e2
    ·exact absurd h e3
    ·exact absurd h e4
    ·exact h
   obtain⟨d,hd⟩:=hdst e3 e4
   have hnd':=hnd i (List.mem_range.2 hil)
   simp only [Bool.and_eq_true,Bool.not_eq_true'] at hnd'
   have hacc:Rp n (dfr ol vs l (rch dss i)) a:=hr.dfr _ fun j hj d hd=>by
    have h1:=hk.deps i o hoi j hj
    have h2:=(hk.reach i o hoi j h1).1
    refine hval j (by omega) (fun e=>?_) (fun e=>?_) (hrch j h1) d hd
    ·subst e;rw [List.contains_iff_mem.2 hj] at hnd';exact absurd hnd'.1 (by simp)
    ·subst e;rw [List.contains_iff_mem.2 hj] at hnd';exact absurd hnd'.2 (by simp)
   rw [vobs_get hv i hmem o hoi w hx a hacc]
   simp only [Oper.upon,hd]
   exact ih _ _ _ (by omega) (by simpa using hs) (hcl.set hoi hall) (hI.val hk hoi hd e1 e2 e3 e4)
theorem cw_twin {id:Nat}(hmix:P.follows .mixedOrders=true) (T:TypeId) (zs us1 us2:List Value) (j1 s1 k1 j2 s2 k2:Nat) (vs:List Value) (is:List Nat) (dss rl:List (List Nat)) (ps:List (Nat×Nat)){w:World}(hk:detOk n ol [s1,s2] l dss rl ps=true) (ht:(twOk ol.length dss rl j1 s1 k1 j2 s2 k2 is&& !is.contains j1&& !is.contains j2&&is.all (fun i=>decide (i<ol.length)))=true)
  (hm1:Makes P n ol l T zs j1) (hm2:Makes P n ol l T zs j2) (hf1:Fills P n ol vs w l T zs us1 j1 s1 k1) (hf2:Fills P n ol vs w l T zs us2 j2 s2 k2) (hv:VObs P n ol vs w dss l is) (hfin:TwEnd Q n ol vs l w T us1 us2 j1 j2 is):cw P Q n (.region id ol.toArray true) l w:=fun a ha=>by
 refine wp_region_any hmix ?_
 simp only [Bool.and_eq_true,Bool.not_eq_true',List.all_eq_true,decide_eq_true_eq] at ht
 obtain⟨⟨⟨h1,h2⟩,h3⟩,h4⟩:=ht
 have hsz:(Array.replicate ol.toArray.size false).size=ol.length:=by simp
 have hfalse:∀i,(Array.replicate ol.toArray.size false).getD i false=false:=by
  intro i
  simp only [Array.getD_eq_getD_getElem?,Array.getElem?_replicate]
  split <;> rfl
 have hI:TwI n ol l vs T zs us1 us2 j1 s1 j2 s2 w (Array.replicate ol.toArray.size false) a w.drew:=by
  refine⟨ha,(Ext.refl w).drew,?_,0,0,?_,?_,?_⟩
  ·intro i _ _ _ h;rw [hfalse] at h;cases h
  ·intro h;rw [hfalse] at h;cases h
  ·intro h;rw [hfalse] at h;cases h
  ·intro h;rw [hfalse] at h;cases h
 refine twin_any (detOk_spec hk) h1 (fun h=>by rw [List.contains_iff_mem.2 h] at h2;cases h2) (fun h=>by rw [List.contains_iff_mem.2 h] at h3;cases h3) h4 hv hm1 hm2 hf1 hf2 hfin ol.toArray.size _ a _ ?_ hsz (fun i o _ h=>by rw [hfalse] at h;cases h) hI
 refine Nat.le_trans List.countP_le_length ?_
 simp
theorem vobs_cons {i:Nat}{is:List Nat}{o:Oper}{v:Value}(ho:ol[i]?=some o){acc:Fr}(hv:(vs[i]?).getD undef=v) (hacc:dfr ol vs l (rch dss i)=acc) (h:∀w,Ext w0 w→RunD P n acc o w (.value v) w) (h':VObs P n ol vs w0 dss l is):VObs P n ol vs w0 dss l (i::is):=by
 refine⟨?_,h'⟩
 rw [ho]
 simp only
 rw [hv,hacc]
 exact h
theorem makes {j d:Nat}{ty:TypeId}{pos:String}{af:Array Edge}{z:Value}(ho:ol[j]?=some ⟨some d,.alloc T,ty,pos,af,none⟩) (hz:∀w,(zeroValue T).run P w= .ok z w) (hv:z.cells=zs.toArray):Makes P n ol l T zs j:=by
 unfold Makes
 rw [ho]
 intro w a _
 have e:(Instr.alloc T true (.tuple #[])).run P w= .ok (.pointer (some ⟨w.heap.size,0,none⟩)) (w.alloc (.cells zs.toArray T)):=by
  show ((zeroValue T>>=fun z=>(newVar T z>>=fun r=>pure (Value.pointer (some r))):Sem Value)).run P w=_
  rw [Sem.run_bind,hz w]
  show ((newVar T z>>=fun r=>pure (Value.pointer (some r)):Sem Value)).run P w=_
  rw [Sem.run_bind,run_newVar hv];rfl
 show ((Instr.alloc T true (.tuple #[])>>=fun r=>pure (Next.value r):Sem Next)).run P w=_
 rw [Sem.run_bind,e];rfl
theorem fills {j s k dj dk K:Nat}{us:List Value}{ty:TypeId}{pos:String}{af:Array Edge}{x y:Operand}(ho:ol[s]?=some ⟨none,.store T x y,ty,pos,af,none⟩) (hj:dstOf ol j=some dj) (hkk:dstOf ol k=some dk) (hval:(vs[k]?).getD undef= .agg us.toArray)
  (hx:∀v u,evo ((dj,v)::(dk,u)::l) x=some v) (hy:∀v u,evo ((dj,v)::(dk,u)::l) y=some u) (hT:AggT P T K) (hlen:us.length=K) (hz:zs.length=K) (h1:us.all (·.oneCell')=true):Fills P n ol vs w0 l T zs us j s k:=by
 unfold Fills
 rw [ho]
 intro w g _ hb
 obtain⟨w',hr,hb2,hu,_⟩:=run_stored (P:=P) hT hlen hb (off:=0) (by omega) h1 us (by unfold overl;rw [List.take_zero,List.nil_append,Nat.zero_add,hlen,←hz,List.drop_length,List.append_nil])
 refine⟨w',?_,hb2,hu⟩
 rw [hj,hkk,hval]
 exact rd_store (hx _ _) (hy _ _) hr
end
structure UpS (S:Nat→Prop) (w w':World):Prop where
 os:w'.os=w.os
 tape:w'.tape=w.tape
 output:w'.output=w.output
 size:w.heap.size≤w'.heap.size
 block:∀k,k<w.heap.size→¬S k→w'.heap[k]?=w.heap[k]?
section
variable {S:Nat→Prop}{a w w':World}
theorem UpS.refl (S:Nat→Prop) (w:World):UpS S w w:=⟨rfl,rfl,rfl,Nat.le_refl _,fun _ _ _=>rfl⟩
theorem UpS.trans (h:UpS S a w) (u:UpS S w w'):UpS S a w':=
 ⟨u.os.trans h.os,u.tape.trans h.tape,u.output.trans h.output,Nat.le_trans h.size u.size,fun k hk hS=>(u.block k (Nat.lt_of_lt_of_le hk h.size) hS).trans (h.block k hk hS)⟩
theorem UpS.of_ext (e:Ext w w'):UpS S w w':=⟨e.below.os,e.below.tape,e.below.output,e.size,fun k hk _=>e.below.block k hk⟩
theorem UpS.ext (h:UpS S a w) (e:Ext w w'):UpS S a w':=h.trans (UpS.of_ext e)
theorem UpS.upd {g:Nat}(h:UpS S a w) (u:Upd g w w') (hg:a.heap.size≤g):UpS S a w':=
 ⟨u.by_.os.trans h.os,u.by_.tape.trans h.tape,u.by_.output.trans h.output,Nat.le_trans h.size u.by_.size,fun k hk hS=>(u.by_.block k (Nat.lt_of_lt_of_le hk h.size) (fun e=>by injection e with e;omega)).trans (h.block k hk hS)⟩
theorem UpS.of_updO {A:Option Addr}(u:UpdO A w w') (hA:∀p,A=some p→S p.block):UpS S w w':=
 ⟨u.by_.os,u.by_.tape,u.by_.output,u.by_.size,fun k hk hS=>u.by_.block k hk (fun e=>by
  cases A with
  | none=>cases e
  | some p=>injection e with e;exact hS (e▸hA p rfl))⟩
theorem UpS.mono {T:Nat→Prop}(h:UpS S w w') (hs:∀k,S k→T k):UpS T w w':=⟨h.os,h.tape,h.output,h.size,fun k hk hT=>h.block k hk fun q=>hT (hs k q)⟩
theorem UpS.toExt (h:UpS S w w') (e:Ext a w) (hS:∀k,S k→a.heap.size≤k):Ext a w':=
 ⟨⟨h.os.trans e.below.os,h.tape.trans e.below.tape,h.output.trans e.below.output,Nat.le_trans e.size h.size,fun k hk=>(h.block k (Nat.lt_of_lt_of_le hk e.size) (fun q=>by have:=hS k q;omega)).trans (e.below.block k hk)⟩⟩
theorem Bk.upS {g:Nat}{t:TypeId}{vs:List Value}(h:Bk w g t vs) (u:UpS S w w') (hg:¬S g):Bk w' g t vs:=(u.block g h.lt hg).trans h
theorem Own.upS {b:Nat}{t:TypeId}{s:Nat}{A:Option Addr}{n cap:Nat}{vs:List Value}(h:Own w b t s A n cap vs) (u:UpS S w w') (hA:∀p,A=some p→¬S p.block):Own w' b t s A n cap vs:=by
 rcases h with h | ⟨g,cs,ha,hb,hk,r⟩
 ·exact Or.inl h
 ·exact Or.inr ⟨g,cs,ha,hb,hk.upS u (hA _ ha),r⟩
def NoT (S:Nat→Prop) (w:World) (T:TypeId):Prop:=∀k,S k→∀vs,¬Bk w k T vs
theorem Own.upT {b:Nat}{t:TypeId}{s:Nat}{A:Option Addr}{n cap:Nat}{vs:List Value}(h:Own w b t s A n cap vs) (u:UpS S w w') (hN:NoT S w t):Own w' b t s A n cap vs:=by
 rcases h with h | ⟨g,cs,ha,hb,hk,r⟩
 ·exact Or.inl h
 ·exact Or.inr ⟨g,cs,ha,hb,hk.upS u (fun q=>hN g q cs hk),r⟩
theorem Zr.upS {b:Nat}{s:Bool}{A:Option Addr}{n cap:Nat}{z:Int}(h:Zr w b s A n cap z) (u:UpS S w w') (hN:NoT S w 45):Zr w' b s A n cap z:=⟨h.sgn,h.len,h.own.upT u hN⟩
theorem El.upS {b:Nat}{e:ZC}{z:Int}(h:El none b w e z) (u:UpS S w w') (hN:NoT S w 45):El none b w' e z:=Or.inl (h.zr.upS u hN)
theorem Lz.upS {K b lb:Nat}{A:Option Addr}{n cap:Nat}{zs:List Int}(h:Lz none K b w lb A n cap zs) (u:UpS S w w') (hN:NoT S w 45) (hA:∀p,A=some p→¬S p.block):Lz none K b w' lb A n cap zs:=by
 obtain⟨es,h1,h2,h3,h4⟩:=h
 exact⟨es,h1.upS u hA,h2,h3,fun i hi=>⟨(h4 i hi).1,(h4 i hi).2.upS u hN⟩⟩
theorem Bk.type {g:Nat}{t t':TypeId}{vs us:List Value}(h:Bk w g t vs) (h':Bk w g t' us):t=t':=by
 unfold Bk at h h'
 rw [h] at h'
 injection h' with h'
 injection h'
theorem Own.type {b g:Nat}{t t':TypeId}{s:Nat}{A:Option Addr}{n cap:Nat}{vs us:List Value}(h:Own w b t s A n cap vs){p:Addr}(hp:A=some p) (hg:p.block=g) (h':Bk w g t' us):t=t':=by
 rcases h with h | ⟨g',cs,ha,hb,hk,r⟩
 ·rw [h.1] at hp;cases hp
 ·rw [ha] at hp;cases hp
  simp only at hg
  subst hg
  exact hk.type h'
end
theorem Rcs.turn {K lb n m r:Nat}{ra:Nat→Option Addr}{rc:Nat→Nat}{w w':World}{Z:Mx}(h:Rcs K lb n m ra rc w Z) (hr:r<n){zs:List Int}(u:UpdO (ra r) w w') (hz:Lz none K 0 w' lb (ra r) m (rc r) zs):Rcs K lb n m ra rc w' (fun a=>if a=r then fun j=>zs.getD j 0 else Z a):=by
 obtain⟨us,ho⟩:=h.own hr
 refine⟨fun s hs=>?_,h.dis⟩
 by_cases e:s=r
 ·subst e;exact⟨zs,hz,fun j _=>by rw [if_pos rfl]⟩
 ·obtain⟨ys,h1,h2⟩:=h.row s hs
  exact⟨ys,h1.updO ho u (h.dis r s hr hs fun q=>e q.symm),fun j hj=>by rw [if_neg e];exact h2 j hj⟩
def S2 (A B:Option Addr):Nat→Prop:=fun k=>(∃p,A=some p∧p.block=k)∨∃p,B=some p∧p.block=k
theorem Rcs.turn2 {K lb n m r s:Nat}{ra:Nat→Option Addr}{rc:Nat→Nat}{w w':World}{Z:Mx}(h:Rcs K lb n m ra rc w Z) (hr:r<n) (hs:s<n) (hrs:r≠s){zs ys:List Int}(u:UpS (S2 (ra r) (ra s)) w w')
  (hz:Lz none K 0 w' lb (ra r) m (rc r) zs) (hy:Lz none K 0 w' lb (ra s) m (rc s) ys):Rcs K lb n m ra rc w' (fun a=>if a=r then fun j=>zs.getD j 0 else if a=s then fun j=>ys.getD j 0 else Z a):=by
 obtain⟨us,ho⟩:=h.own hr
 obtain⟨vs,hv⟩:=h.own hs
 have hN:NoT (S2 (ra r) (ra s)) w 45:=fun k hk vs hb=>by
  rcases hk with⟨p,hp,e⟩ | ⟨p,hp,e⟩
  ·exact absurd (ho.type hp e hb) (by decide)
  ·exact absurd (hv.type hp e hb) (by decide)
 refine⟨fun t ht=>?_,h.dis⟩
 by_cases e:t=r
 ·subst e;exact⟨zs,hz,fun j _=>by rw [if_pos rfl]⟩
 ·by_cases e2:t=s
  ·subst e2;exact⟨ys,hy,fun j _=>by rw [if_neg e,if_pos rfl]⟩
  ·obtain⟨xs,h1,h2⟩:=h.row t ht
   refine⟨xs,h1.upS u hN fun p hp hS=>?_,fun j hj=>by rw [if_neg e,if_neg e2];exact h2 j hj⟩
   rcases hS with⟨q,hq,e3⟩ | ⟨q,hq,e3⟩
   ·exact h.dis r t hr ht (fun x=>e x.symm) q p hq hp e3
   ·exact h.dis s t hs ht (fun x=>e2 x.symm) q p hq hp e3
theorem aggSide:AggT Tryz.prog 112 4:=⟨fun _=>by kernel_rfl,fun _=>by kernel_rfl⟩
theorem agg22:AggT Tryz.prog 124 8:=⟨fun _=>by kernel_rfl,fun _=>by kernel_rfl⟩
theorem cellSides:∀w,(isAgg 97).run Tryz.prog w= .ok false w:=fun _=>by kernel_rfl
theorem szSides:∀w,(sizeOf 97).run Tryz.prog w= .ok 1 w:=fun _=>by kernel_rfl
def fSw (gr:Nat):Value:= .func (.func 83) #[] #[.pointer (some ⟨gr,0,none⟩)]
def fTn (gr:Nat):Value:= .func (.func 84) #[] #[.pointer (some ⟨gr,0,none⟩)]
def fAd (gr:Nat):Value:= .func (.func 85) #[] #[.pointer (some ⟨gr,0,none⟩)]
def fMx (gr:Nat):Value:= .func (.func 87) #[] #[.pointer (some ⟨gr,0,none⟩)]
structure Ldr (lb N c gl gs gr:Nat) (RA:Option Addr) (rcap:Nat) (ra:Nat→Option Addr) (rc:Nat→Nat) (w:World) (Z:Mx):Prop where
 bl:Bk w gl 99 [.slice RA N rcap,.slice (some ⟨gs,0,none⟩) 1 1]
 bs:Bk w gs 112 [fSw gr,fTn gr,fAd gr,fMx gr]
 br:Bk w gr 54 [.slice RA N rcap]
 ex:∃ps Y,Own w lb 22 1 RA N rcap (ps.map (rwv ra rc c))∧Rcs 68719476736 lb N c ra rc w Y∧Per N ps∧∀i j,i<N→j<c→Z i j=Y (ps.getD i 0) j
 lb_:lb≤gl∧lb≤gs∧lb≤gr
def LS (N gl gs gr:Nat) (RA:Option Addr) (ra:Nat→Option Addr):Nat→Prop:=fun k=>k=gl∨k=gs∨k=gr∨(∃p,RA=some p∧p.block=k)∨∃r,r<N∧∃p,ra r=some p∧p.block=k
section
variable {lb N c gl gs gr:Nat}{RA:Option Addr}{rcap:Nat}{ra:Nat→Option Addr}{rc:Nat→Nat}{w w':World}{Z Y:Mx}
theorem Ldr.lt (h:Ldr lb N c gl gs gr RA rcap ra rc w Z){k:Nat}(hk:LS N gl gs gr RA ra k):lb≤k∧k<w.heap.size:=by
 obtain⟨h1,h2,h3⟩:=h.lb_
 obtain⟨ps,Y,ho,hc,_⟩:=h.ex
 rcases hk with rfl | rfl | rfl | ⟨p,hp,rfl⟩ | ⟨r,hr,p,hp,rfl⟩
 ·exact⟨h1,h.bl.lt⟩
 ·exact⟨h2,h.bs.lt⟩
 ·exact⟨h3,h.br.lt⟩
 ·exact ho.block p hp
 ·exact hc.lt r hr p hp
theorem Ldr.no (h:Ldr lb N c gl gs gr RA rcap ra rc w Z){T:TypeId}(h1:99≠T) (h2:112≠T) (h3:54≠T) (h4:22≠T) (h5:41≠T):NoT (LS N gl gs gr RA ra) w T:=fun k hk vs hb=>by
 obtain⟨ps,Y,ho,hc,_⟩:=h.ex
 rcases hk with rfl | rfl | rfl | ⟨p,hp,e⟩ | ⟨r,hr,p,hp,e⟩
 ·exact h1 (h.bl.type hb)
 ·exact h2 (h.bs.type hb)
 ·exact h3 (h.br.type hb)
 ·exact h4 (ho.type hp e hb)
 ·obtain⟨us,hu⟩:=hc.own hr
  exact h5 (hu.type hp e hb)
theorem Ldr.no64 (h:Ldr lb N c gl gs gr RA rcap ra rc w Z):NoT (LS N gl gs gr RA ra) w 45:=h.no (by decide) (by decide) (by decide) (by decide) (by decide)
theorem Ldr.cong (h:Ldr lb N c gl gs gr RA rcap ra rc w Z) (e:∀i j,i<N→j<c→Y i j=Z i j):Ldr lb N c gl gs gr RA rcap ra rc w Y:=by
 obtain⟨ps,X,ho,hc,hp,hz⟩:=h.ex
 exact⟨h.bl,h.bs,h.br,⟨ps,X,ho,hc,hp,fun i j hi hj=>(e i j hi hj).trans (hz i j hi hj)⟩,h.lb_⟩
theorem Ldr.rows (h:Ldr lb N c gl gs gr RA rcap ra rc w Z){S:Nat→Prop}(u:UpS S w w') (hS:∀k,S k→(∃p,RA=some p∧p.block=k)∨∃r,r<N∧∃p,ra r=some p∧p.block=k)
  (hex:∃ps X,Own w' lb 22 1 RA N rcap (ps.map (rwv ra rc c))∧Rcs 68719476736 lb N c ra rc w' X∧Per N ps∧∀i j,i<N→j<c→Y i j=X (ps.getD i 0) j):Ldr lb N c gl gs gr RA rcap ra rc w' Y∧UpS (LS N gl gs gr RA ra) w w':=by
 obtain⟨ps,X,ho,hc,hp,hz⟩:=h.ex
 have key:∀{g:Nat}{T:TypeId}{vs:List Value},Bk w g T vs→22≠T→41≠T→¬S g:=fun {g T vs} hb h1 h2 hk=>by
  rcases hS g hk with⟨p,hp,e⟩ | ⟨r,hr,p,hp,e⟩
  ·exact h1 (ho.type hp e hb)
  ·obtain⟨us,hu⟩:=hc.own hr
   exact h2 (hu.type hp e hb)
 exact⟨⟨h.bl.upS u (key h.bl (by decide) (by decide)),h.bs.upS u (key h.bs (by decide) (by decide)),h.br.upS u (key h.br (by decide) (by decide)),hex,h.lb_⟩,u.mono fun k hk=>Or.inr (Or.inr (Or.inr (hS k hk)))⟩
end
def LaA (k:Int) (xs ys:List Int) (i:Nat) (us:List Int):Prop:=(∀b,b<i→us.getD b 0=k*ys.getD b 0+xs.getD b 0)∧∀b,i≤b→us.getD b 0=xs.getD b 0
theorem LaA.start (k:Int) (xs ys:List Int):LaA k xs ys 0 xs:=⟨fun b h=>absurd h (Nat.not_lt_zero b),fun _ _=>rfl⟩
theorem LaA.next {k:Int}{xs ys us:List Int}{i:Nat}(h:LaA k xs ys i us) (hl:i<us.length):LaA k xs ys (i+1) (us.set i (k*ys.getD i 0+us.getD i 0)):=by
 refine⟨fun b hb=>?_,fun b hb=>?_⟩
 ·rw [getD_set hl]
  by_cases e:b=i
  ·subst e;rw [if_pos rfl,h.2 b (Nat.le_refl _)]
  ·rw [if_neg e];exact h.1 b (by omega)
 ·rw [getD_set hl,if_neg (by omega)];exact h.2 b (by omega)
theorem LaA.skip {k:Int}{xs ys us:List Int}{i:Nat}(h:LaA k xs ys i us) (h0:ys.getD i 0=0):LaA k xs ys (i+1) us:=by
 refine⟨fun b hb=>?_,fun b hb=>h.2 b (by omega)⟩
 by_cases e:b=i
 ·subst e;rw [h0,Int.mul_zero,Int.zero_add];exact h.2 b (Nat.le_refl _)
 ·exact h.1 b (by omega)
def LaM (p q:Int) (xs ys:List Int) (i:Nat) (us zs:List Int):Prop:=(∀b,b<i→zs.getD b 0=p*xs.getD b 0+q*ys.getD b 0)∧∀b,i≤b→zs.getD b 0=us.getD b 0
theorem LaM.start (p q:Int) (xs ys us:List Int):LaM p q xs ys 0 us us:=⟨fun b h=>absurd h (Nat.not_lt_zero b),fun _ _=>rfl⟩
theorem LaM.next {p q x y:Int}{xs ys us zs:List Int}{i:Nat}(h:LaM p q xs ys i us zs) (hl:i<zs.length) (hx:x=xs.getD i 0) (hy:y=ys.getD i 0):LaM p q xs ys (i+1) us (zs.set i (p*x+q*y)):=by
 refine⟨fun b hb=>?_,fun b hb=>?_⟩
 ·rw [getD_set hl]
  by_cases e:b=i
  ·subst e;rw [if_pos rfl,hx,hy]
  ·rw [if_neg e];exact h.1 b (by omega)
 ·rw [getD_set hl,if_neg (by omega)];exact h.2 b (by omega)
set_option maxHeartbeats 8000000 in
set_option maxRecDepth 20000 in
theorem g_lad_add0 {w:World}{lb lbr N vc rc:Nat}{VA RA:Option Addr}{vs rs:List Int}{x:Int}(hlv:Lz none 68719476736 0 w lb VA N vc vs) (hlb:lb≤w.heap.size) (hlr:Lz none 68719476736 0 w lbr RA N rc rs) (hlbr:lbr≤w.heap.size) (hdi:∀p q:Addr,VA=some p→RA=some q→p.block≠q.block) (hN:N≤8192){b_k:Nat}{sk:Bool}{Ak:Option Addr}{nk ck:Nat}(hk:Zr w b_k sk Ak nk ck x) (Lk:ln x≤68719476736) (hb:∀b,b<N→ln (x*rs.getD b 0+vs.getD b 0)≤68719476736):
    Calls Tryz.prog 86 #[.slice VA N vc,.slice RA N rc,.agg #[.bool sk,.slice Ak nk ck]] w (fun e w'=>∃ys,e= .returned (.tuple #[])∧Lz none 68719476736 0 w' lb VA N vc ys∧(∀b,b<N→ys.getD b 0=x*rs.getD b 0+vs.getD b 0)∧UpdO VA w w'):=by
 refine sx_enter Tryz.func86 rfl (n:=32) rfl (bq rfl) (args:= [.slice VA N vc,.slice RA N rc,.agg #[.bool sk,.slice Ak nk ck]]) ?_
 have blk1:=hlv.block
 have blk2:=hlr.block
 refine cw_keep [(0,.slice VA N vc),(1,.slice RA N rc),(2,.agg #[.bool sk,.slice Ak nk ck])] ⟨rfl,rfl,rfl,trivial⟩ (sr (wl_box rfl rfl (vs:= [.bool sk,.slice Ak nk ck]) rfl (by decide) fun g3 v4 nb=>?_))
 have hb6:=nb.bk
 have ge7:w.heap.size≤g3:=by rw [←nb.at_];exact (UO.refl VA w).size
 have ne8:∀p:Addr,VA=some p→p.block≠g3:=fun p hp=>by have:=(hlv).block p hp;have:=nb.at_;omega
 have ne9:∀p:Addr,RA=some p→p.block≠g3:=fun p hp=>by have:=(hlr).block p hp;have:=nb.at_;omega
 have e5:=nb.ext
 clear nb
 have hw1:UpdO VA w v4:=UO.ext (UO.refl VA w) e5
 refine ne_ (sr (mv 1 rfl (pu (v:= .int .i64 ((N:Nat):Int)) rfl (by kernel_rfl) (mv 1 rfl (ne_ (cw_block ?_))))))
 refine cw_loop (T:=World×Nat×List Int) (fun⟨wr,i,us⟩=> [(0,.slice VA N vc),(1,.slice RA N rc),(2,.agg #[.bool sk,.slice Ak nk ck]),(5,.pointer (some ⟨g3,0,none⟩)),(7,.slice VA N vc),(8,.int .i64 ((N:Nat):Int)),(9,.int .i64 ((i:Nat):Int))]) (fun⟨wr,i,us⟩=>wr) (fun⟨wr,i,us⟩=>(UpdO VA w wr)∧(i≤N)∧(Bk wr g3 41 [.bool sk,.slice Ak nk ck])∧(Zr wr b_k sk Ak nk ck (x))∧(lb≤wr.heap.size)∧(Lz none 68719476736 0 wr lb VA N vc us)∧(∀p:Addr,VA=some p→p.block≠g3)∧(lbr≤wr.heap.size)∧(Lz none 68719476736 0 wr lbr RA N rc rs)∧(∀p:Addr,RA=some p→p.block≠g3)∧(∀p q:Addr,RA=some p→VA=some q→p.block≠q.block)∧(LaA x vs rs i us)) (fun⟨wr,i,us⟩=>N-i)
  (⟨v4,0,vs⟩:World×Nat×List Int) ⟨hw1,(by omega),hb6,(hk.ext e5),(Nat.le_trans hlb e5.size),(hlv.ext e5),ne8,(Nat.le_trans hlbr e5.size),(hlr.ext e5),ne9,(fun p q hp hq e=>hdi q p hq hp e.symm),(LaA.start x vs rs)⟩ rfl ⟨rfl,rfl,rfl,rfl,rfl,rfl,rfl,trivial⟩ ?_
 rintro⟨wr,i,us⟩ ⟨hw1,hi_i,b_g3,z_g3,l_VAb,l_VA,l_VA_g3,l_RAb,l_RA,l_RA_g3,d_l_RA_l_VA,hA⟩
 refine cw_re [(0,.slice VA N vc),(1,.slice RA N rc),(2,.agg #[.bool sk,.slice Ak nk ck]),(5,.pointer (some ⟨g3,0,none⟩)),(7,.slice VA N vc),(8,.int .i64 ((N:Nat):Int)),(9,.int .i64 ((i:Nat):Int))] wr rfl ⟨rfl,rfl,rfl,rfl,rfl,rfl,rfl,trivial⟩ ?_
 have blk10:=l_VA.block
 have blk11:=l_RA.block
 refine cw_seq ?_
 by_cases hiN:i<N
 · 
  refine cw_region (wl_cmp rfl rfl rfl true (cb_lt_t (a:=i) (b:=N) rfl rfl (by omega)) (by decide) (ne_ (cw_seq (cw_true rfl (cw_skip (eo_then (cw_seq (cw_block (sr (mv 2 rfl (ne_ (cw_seq ?_))))))))))))
  by_cases hy0:rs.getD i 0=0
  · 
   refine cw_region (mv 2 rfl ?_)
   obtain⟨pz12,sz12,Bz12,nz12,cz12,hpz12,ldz12,hKz12,ez12⟩:=(l_RA).at (i:=i) (by omega)
   have zz12:=ez12.zr
   have Lz12:ln (rs.getD i 0)≤68719476736:=zz12.ln_le hKz12
   refine wl_idx rfl rfl rfl elemI aggInt.size i rfl (by omega) pz12 hpz12 (by decide) (wl_load rfl rfl (ldz12 _ (Ext.refl _) _ _ aggInt) (by decide) (wl_call rfl rfl (vs:= [.agg #[.bool sz12,.slice Bz12 nz12 cz12]]) (by kernel_rfl) (by decide) (g_zint_Sign zz12.zi (zz12.le (lx_ Lz12 rfl))) ?_))
   rintro _ v13 ⟨xr15,rfl,r15,e14⟩
   refine ret_intro ?_
   have hw2:UpdO VA w v13:=UO.ext hw1 e14
   obtain rfl:=r15
   refine wl_cmp rfl rfl rfl false (scmp_ne_f hy0) (by decide) (ne_ (cw_false rfl (cw_skip (eo_block_normal (eo_then (cw_region (wl_ar rfl rfl rfl ((i+1:Nat):Int) (ai_add (a:=i) (b:=1) rfl rfl (by omega)) (by decide) (mv 1 rfl (wl_nil (eo_round (⟨v13,i+1,us⟩:World×Nat×List Int) ⟨hw2,(by omega),(b_g3.ext e14),(z_g3.ext e14),(Nat.le_trans l_VAb e14.size),(l_VA.ext e14),l_VA_g3,(Nat.le_trans l_RAb e14.size),(l_RA.ext e14),l_RA_g3,d_l_RA_l_VA,(hA.skip hy0)⟩ (show N-(i+1)<N-i by omega) rfl ⟨rfl,rfl,rfl,rfl,rfl,rfl,rfl,trivial⟩))))))))))
  · 
   refine cw_region (mv 2 rfl ?_)
   obtain⟨pz16,sz16,Bz16,nz16,cz16,hpz16,ldz16,hKz16,ez16⟩:=(l_RA).at (i:=i) (by omega)
   have zz16:=ez16.zr
   have Lz16:ln (rs.getD i 0)≤68719476736:=zz16.ln_le hKz16
   refine wl_idx rfl rfl rfl elemI aggInt.size i rfl (by omega) pz16 hpz16 (by decide) (wl_load rfl rfl (ldz16 _ (Ext.refl _) _ _ aggInt) (by decide) (wl_call rfl rfl (vs:= [.agg #[.bool sz16,.slice Bz16 nz16 cz16]]) (by kernel_rfl) (by decide) (g_zint_Sign zz16.zi (zz16.le (lx_ Lz16 rfl))) ?_))
   rintro _ v17 ⟨xr19,rfl,r19,e18⟩
   refine ret_intro ?_
   have hw2:UpdO VA w v17:=UO.ext hw1 e18
   obtain rfl:=r19
   refine wl_cmp rfl rfl rfl true (scmp_ne_t hy0) (by decide) (ne_ (cw_true rfl ?_))
   obtain⟨pz20,sz20,Bz20,nz20,cz20,hpz20,ldz20,hKz20,ez20⟩:=((l_VA.ext e18)).at (i:=i) (by omega)
   have zz20:=ez20.zr
   have Lz20:ln (us.getD i 0)≤68719476736:=zz20.ln_le hKz20
   have L21:ln (x*(rs.getD i 0)+(us.getD i 0))≤68719476736:=(by rw [hA.2 i (Nat.le_refl _)];exact hb i hiN)
   refine cw_draw mix 13 [] [Is (.slice VA N vc),Is (.int .i64 ((i:Nat):Int)),Is (.agg #[.bool sk,.slice Ak nk ck]),Is (.slice RA N rc),Is (.int .i64 ((i:Nat):Int)),Is (.pointer (some pz16)),Is (.agg #[.bool sz16,.slice Bz16 nz16 cz16]),Is (.slice VA N vc),Is (.int .i64 ((i:Nat):Int)),Is (.pointer (some pz20)),Is (.agg #[.bool sz20,.slice Bz20 nz20 cz20]),ZR w.heap.size (x*(rs.getD i 0)+(us.getD i 0)),Is (.pointer (some pz20))] [[],[],[],[],[],[3,4],[5],[],[],[7,8],[9],[2,6,10],[0,1]] [[],[],[],[],[],[3,4],[3,4,5],[],[],[7,8],[7,8,9],[2,3,4,5,6,7,8,9,10],[0,1,2,3,4,5,6,7,8,9,10,11],[0,1,2,3,4,5,6,7,8,9,10,11,12]] rfl
    (obs_cons rfl rfl (hob rfl rfl ?_) (obs_cons rfl rfl (hob rfl rfl ?_) (obs_cons rfl rfl (hob rfl rfl ?_) (obs_cons rfl rfl (hob rfl rfl ?_) (obs_cons rfl rfl (hob rfl rfl ?_) (obs_cons rfl rfl (hob rfl rfl ?_) (obs_cons rfl rfl (hob rfl rfl ?_) (obs_cons rfl rfl (hob rfl rfl ?_) (obs_cons rfl rfl (hob rfl rfl ?_) (obs_cons rfl rfl (hob rfl rfl ?_) (obs_cons rfl rfl (hob rfl rfl ?_) (obs_cons rfl rfl (hob rfl rfl ?_) (obs_cons rfl rfl (hob rfl rfl ?_) obs_nil))))))))))))) ?_
   · 
    intro v23 e24
    have hw3:UpdO VA w v23:=UO.ext hw2 e24
    refine deps_nil (mv 1 rfl ?_)
    exact pi_done rfl (Ext.refl _) rfl
   · 
    intro v25 e26
    have hw3:UpdO VA w v25:=UO.ext hw2 e26
    refine deps_nil (mv 1 rfl ?_)
    exact pi_done rfl (Ext.refl _) rfl
   · 
    intro v27 e28
    have hw3:UpdO VA w v27:=UO.ext hw2 e28
    refine deps_nil (lo aggInt (b_g3.ext (e18.trans e28)) [.bool sk,.slice Ak nk ck] rfl rfl rfl ?_)
    exact pi_done rfl (Ext.refl _) rfl
   · 
    intro v29 e30
    have hw3:UpdO VA w v29:=UO.ext hw2 e30
    refine deps_nil (mv 1 rfl ?_)
    exact pi_done rfl (Ext.refl _) rfl
   · 
    intro v31 e32
    have hw3:UpdO VA w v31:=UO.ext hw2 e32
    refine deps_nil (mv 1 rfl ?_)
    exact pi_done rfl (Ext.refl _) rfl
   · 
    intro v33 e34
    have hw3:UpdO VA w v33:=UO.ext hw2 e34
    refine dk rfl rfl (dk rfl rfl (deps_nil (wl_idx rfl rfl rfl elemI aggInt.size i rfl (by omega) pz16 hpz16 (by decide) ?_)))
    exact pi_done rfl (Ext.refl _) rfl
   · 
    intro v45 e46
    have hw3:UpdO VA w v45:=UO.ext hw2 e46
    refine dk rfl rfl (deps_nil (wl_load rfl rfl (ldz16 _ (e18.trans e46) _ _ aggInt) (by decide) ?_))
    exact pi_done rfl (Ext.refl _) rfl
   · 
    intro v52 e53
    have hw3:UpdO VA w v52:=UO.ext hw2 e53
    refine deps_nil (mv 1 rfl ?_)
    exact pi_done rfl (Ext.refl _) rfl
   · 
    intro v54 e55
    have hw3:UpdO VA w v54:=UO.ext hw2 e55
    refine deps_nil (mv 1 rfl ?_)
    exact pi_done rfl (Ext.refl _) rfl
   · 
    intro v56 e57
    have hw3:UpdO VA w v56:=UO.ext hw2 e57
    refine dk rfl rfl (dk rfl rfl (deps_nil (wl_idx rfl rfl rfl elemI aggInt.size i rfl (by omega) pz20 hpz20 (by decide) ?_)))
    exact pi_done rfl (Ext.refl _) rfl
   · 
    intro v68 e69
    have hw3:UpdO VA w v68:=UO.ext hw2 e69
    refine dk rfl rfl (deps_nil (wl_load rfl rfl (ldz20 _ e69 _ _ aggInt) (by decide) ?_))
    exact pi_done rfl (Ext.refl _) rfl
   · 
    intro v75 e76
    have hw3:UpdO VA w v75:=UO.ext hw2 e76
    refine dk rfl rfl (dk rfl rfl (dk rfl rfl (deps_nil ?_)))
    have L92:ln (x*(rs.getD i 0)+(us.getD i 0))≤68719476736:=(by rw [hA.2 i (Nat.le_refl _)];exact hb i hiN)
    refine wl_call rfl rfl (vs:= [.agg #[.bool sk,.slice Ak nk ck],.agg #[.bool sz16,.slice Bz16 nz16 cz16],.agg #[.bool sz20,.slice Bz20 nz20 cz20]]) (by kernel_rfl) (by decide) (g_zint_MulAdd hw3.size (z_g3.ext (e18.trans e76)).zi (z_g3.le (lx_ Lk rfl)) (zz16.ext (e18.trans e76)).zi (zz16.le (lx_ Lz16 rfl)) (zz20.ext e76).zi (zz20.le (lx_ Lz20 rfl))) ?_
    rintro _ v93 ⟨xr95,rfl,r95,e94⟩
    refine ret_intro ?_
    have hw4:UpdO VA w v93:=UO.ext hw3 e94
    obtain⟨s96,A96,n96,c96,rfl,z96⟩:=r95
    exact pi_done rfl e94 ⟨_,_,_,_,rfl,z96⟩
   · 
    intro v97 e98
    have hw3:UpdO VA w v97:=UO.ext hw2 e98
    refine dk rfl rfl (dk rfl rfl (deps_nil (wl_idx rfl rfl rfl elemI aggInt.size i rfl (by omega) pz20 hpz20 (by decide) ?_)))
    exact pi_done rfl (Ext.refl _) rfl
   · 
    intro v109 e110
    have hw3:UpdO VA w v109:=UO.ext hw2 e110
    refine dk rfl rfl (dk rfl rfl (dk rfl rfl (dk rfl rfl (dk rfl rfl (dk rfl rfl (dk rfl rfl (dk rfl rfl (dk rfl rfl (dk rfl rfl (dk rfl rfl (deps_cons rfl rfl fun x166 y167 h168 e169 f170=>?_)))))))))))
    obtain⟨s171,A171,n171,c171,rfl,z171⟩:=h168
    have z171:=z171.ext f170
    refine dk rfl rfl (deps_nil ?_)
    have lt182:=(l_VA.ext (e18.trans e110))
    obtain⟨us180,own181⟩:=lt182.own
    refine wl_setI (e:=⟨s171,A171,n171,c171⟩) (z:=x*(rs.getD i 0)+(us.getD i 0)) rfl rfl rfl hpz20 (by omega) lt182 (Or.inl (z171.mono (Nat.zero_le _))) (z171.le (lx_ L21 rfl)) fun v177 lz178 uo179=>?_
    have hw4:UpdO VA w v177:=UO.trans hw3 uo179
    have hlblz178:lb≤v177.heap.size:=Nat.le_trans (Nat.le_trans (Nat.le_trans l_VAb e18.size) e110.size) uo179.size
    refine wl_nil (eo_np (eo_block_normal (eo_then (cw_region (wl_ar rfl rfl rfl ((i+1:Nat):Int) (ai_add (a:=i) (b:=1) rfl rfl (by omega)) (by decide) (mv 1 rfl (wl_nil (eo_round (⟨v177,i+1,us.set i (x*(rs.getD i 0)+(us.getD i 0))⟩:World×Nat×List Int) ⟨hw4,(by omega),((b_g3.ext (e18.trans e110)).updO uo179 l_VA_g3),((z_g3.ext (e18.trans e110)).updOT own181 uo179),hlblz178,lz178,l_VA_g3,(Nat.le_trans (Nat.le_trans (Nat.le_trans l_RAb e18.size) e110.size) uo179.size),((l_RA.ext (e18.trans e110)).updO own181 uo179 (fun p q hp hq e=>d_l_RA_l_VA q p hq hp e.symm)),l_RA_g3,d_l_RA_l_VA,(hA.next (by rw [l_VA.len];exact hiN))⟩ (show N-(i+1)<N-i by omega) rfl ⟨rfl,rfl,rfl,rfl,rfl,rfl,rfl,trivial⟩))))))))
 · 
  refine cw_region (wl_cmp rfl rfl rfl false (cb_lt_f (a:=i) (b:=N) rfl rfl (by omega)) (by decide) (ne_ (cw_seq (cw_false rfl (cw_exit (eo_thenX (eo_loopX (eo_block_here (eo_end [] rfl trivial ?_)))))))))
  exact⟨us,rfl,l_VA,(fun b hb=>hA.1 b (by omega)),hw1⟩
set_option maxHeartbeats 8000000 in
set_option maxRecDepth 20000 in
theorem g_lad_mix0 {w:World}{lb lbr N vc rc:Nat}{VA RA:Option Addr}{vs rs:List Int}{x1 x2 x3 x4:Int}(hlv:Lz none 68719476736 0 w lb VA N vc vs) (hlb:lb≤w.heap.size) (hlr:Lz none 68719476736 0 w lbr RA N rc rs) (hlbr:lbr≤w.heap.size) (hdi:∀p q:Addr,VA=some p→RA=some q→p.block≠q.block) (hN:N≤8192){b_k1:Nat}{sk1:Bool}{Ak1:Option Addr}{nk1 ck1:Nat}(hk1:Zr w b_k1 sk1 Ak1 nk1 ck1 x1) (Lk1:ln x1≤68719476736){b_k2:Nat}{sk2:Bool}{Ak2:Option Addr}{nk2 ck2:Nat}(hk2:Zr w b_k2 sk2 Ak2 nk2 ck2 x2) (Lk2:ln x2≤68719476736){b_k3:Nat}{sk3:Bool}{Ak3:Option Addr}{nk3 ck3:Nat}(hk3:Zr w b_k3 sk3 Ak3 nk3 ck3 x3) (Lk3:ln x3≤68719476736){b_k4:Nat}{sk4:Bool}{Ak4:Option Addr}{nk4 ck4:Nat}(hk4:Zr w b_k4 sk4 Ak4 nk4 ck4 x4) (Lk4:ln x4≤68719476736) (hq2:∀b,b<N→ln (x2*rs.getD b 0)≤68719476736) (hq4:∀b,b<N→ln (x4*rs.getD b 0)≤68719476736) (hb1:∀b,b<N→ln (x1*vs.getD b 0+x2*rs.getD b 0)≤68719476736) (hb2:∀b,b<N→ln (x3*vs.getD b 0+x4*rs.getD b 0)≤68719476736):
    Calls Tryz.prog 88 #[.slice VA N vc,.slice RA N rc,.agg #[.bool sk1,.slice Ak1 nk1 ck1,.bool sk2,.slice Ak2 nk2 ck2,.bool sk3,.slice Ak3 nk3 ck3,.bool sk4,.slice Ak4 nk4 ck4]] w (fun e w'=>∃us ts,e= .returned (.tuple #[])∧Lz none 68719476736 0 w' lb VA N vc us∧Lz none 68719476736 0 w' lbr RA N rc ts∧(∀b,b<N→us.getD b 0=x1*vs.getD b 0+x2*rs.getD b 0)∧(∀b,b<N→ts.getD b 0=x3*vs.getD b 0+x4*rs.getD b 0)∧UpS (S2 VA RA) w w'):=by
 refine sx_enter Tryz.func88 rfl (n:=49) rfl (bq rfl) (args:= [.slice VA N vc,.slice RA N rc,.agg #[.bool sk1,.slice Ak1 nk1 ck1,.bool sk2,.slice Ak2 nk2 ck2,.bool sk3,.slice Ak3 nk3 ck3,.bool sk4,.slice Ak4 nk4 ck4]]) ?_
 have blk1:=hlv.block
 have blk2:=hlr.block
 refine cw_keep [(0,.slice VA N vc),(1,.slice RA N rc),(2,.agg #[.bool sk1,.slice Ak1 nk1 ck1,.bool sk2,.slice Ak2 nk2 ck2,.bool sk3,.slice Ak3 nk3 ck3,.bool sk4,.slice Ak4 nk4 ck4])] ⟨rfl,rfl,rfl,trivial⟩ (sr (wl_box rfl rfl (vs:= [.bool sk1,.slice Ak1 nk1 ck1,.bool sk2,.slice Ak2 nk2 ck2,.bool sk3,.slice Ak3 nk3 ck3,.bool sk4,.slice Ak4 nk4 ck4]) rfl (by decide) fun g3 v4 nb=>?_))
 have hb6:=nb.bk
 have ge7:w.heap.size≤g3:=by rw [←nb.at_];exact (UpS.refl (S2 VA RA) w).size
 have ne8:∀p:Addr,VA=some p→p.block≠g3:=fun p hp=>by have:=(hlv).block p hp;have:=nb.at_;omega
 have ne9:∀p:Addr,RA=some p→p.block≠g3:=fun p hp=>by have:=(hlr).block p hp;have:=nb.at_;omega
 have e5:=nb.ext
 clear nb
 have hw1:UpS (S2 VA RA) w v4:=(UpS.refl (S2 VA RA) w).ext e5
 refine ne_ (sr (mv 1 rfl (pu (v:= .int .i64 ((N:Nat):Int)) rfl (by kernel_rfl) (mv 1 rfl (ne_ (cw_block ?_))))))
 refine cw_loop (T:=World×Nat×List Int×List Int) (fun⟨wr,i,us,ts⟩=> [(0,.slice VA N vc),(1,.slice RA N rc),(2,.agg #[.bool sk1,.slice Ak1 nk1 ck1,.bool sk2,.slice Ak2 nk2 ck2,.bool sk3,.slice Ak3 nk3 ck3,.bool sk4,.slice Ak4 nk4 ck4]),(5,.pointer (some ⟨g3,0,none⟩)),(9,.slice VA N vc),(10,.int .i64 ((N:Nat):Int)),(11,.int .i64 ((i:Nat):Int))]) (fun⟨wr,i,us,ts⟩=>wr) (fun⟨wr,i,us,ts⟩=>(UpS (S2 VA RA) w wr)∧(i≤N)∧(Bk wr g3 124 [.bool sk1,.slice Ak1 nk1 ck1,.bool sk2,.slice Ak2 nk2 ck2,.bool sk3,.slice Ak3 nk3 ck3,.bool sk4,.slice Ak4 nk4 ck4])∧(Zr wr b_k1 sk1 Ak1 nk1 ck1 (x1))∧(Zr wr b_k2 sk2 Ak2 nk2 ck2 (x2))∧(Zr wr b_k3 sk3 Ak3 nk3 ck3 (x3))∧(Zr wr b_k4 sk4 Ak4 nk4 ck4 (x4))∧(lb≤wr.heap.size)∧(Lz none 68719476736 0 wr lb VA N vc us)∧(∀p:Addr,VA=some p→p.block≠g3)∧(lbr≤wr.heap.size)∧(Lz none 68719476736 0 wr lbr RA N rc ts)∧(∀p:Addr,RA=some p→p.block≠g3)∧(∀p q:Addr,RA=some p→VA=some q→p.block≠q.block)∧(LaM x1 x2 vs rs i vs us)∧(LaM x3 x4 vs rs i rs ts)) (fun⟨wr,i,us,ts⟩=>N-i)
  (⟨v4,0,vs,rs⟩:World×Nat×List Int×List Int) ⟨hw1,(by omega),hb6,(hk1.ext e5),(hk2.ext e5),(hk3.ext e5),(hk4.ext e5),(Nat.le_trans hlb e5.size),(hlv.ext e5),ne8,(Nat.le_trans hlbr e5.size),(hlr.ext e5),ne9,(fun p q hp hq e=>hdi q p hq hp e.symm),(LaM.start x1 x2 vs rs vs),(LaM.start x3 x4 vs rs rs)⟩ rfl ⟨rfl,rfl,rfl,rfl,rfl,rfl,rfl,trivial⟩ ?_
 rintro⟨wr,i,us,ts⟩ ⟨hw1,hi_i,b_g3,z_g3_1,z_g3_2,z_g3_3,z_g3_4,l_VAb,l_VA,l_VA_g3,l_RAb,l_RA,l_RA_g3,d_l_RA_l_VA,hA,hB⟩
 refine cw_re [(0,.slice VA N vc),(1,.slice RA N rc),(2,.agg #[.bool sk1,.slice Ak1 nk1 ck1,.bool sk2,.slice Ak2 nk2 ck2,.bool sk3,.slice Ak3 nk3 ck3,.bool sk4,.slice Ak4 nk4 ck4]),(5,.pointer (some ⟨g3,0,none⟩)),(9,.slice VA N vc),(10,.int .i64 ((N:Nat):Int)),(11,.int .i64 ((i:Nat):Int))] wr rfl ⟨rfl,rfl,rfl,rfl,rfl,rfl,rfl,trivial⟩ ?_
 have blk10:=l_VA.block
 have blk11:=l_RA.block
 refine cw_seq ?_
 by_cases hiN:i<N
 · 
  refine cw_region (wl_cmp rfl rfl rfl true (cb_lt_t (a:=i) (b:=N) rfl rfl (by omega)) (by decide) (ne_ (cw_seq (cw_true rfl (cw_skip (eo_then (cw_seq (cw_block (sr (mv 2 rfl (ne_ (cw_seq (cw_keep [(0,.slice VA N vc),(1,.slice RA N rc),(2,.agg #[.bool sk1,.slice Ak1 nk1 ck1,.bool sk2,.slice Ak2 nk2 ck2,.bool sk3,.slice Ak3 nk3 ck3,.bool sk4,.slice Ak4 nk4 ck4]),(5,.pointer (some ⟨g3,0,none⟩)),(9,.slice VA N vc),(10,.int .i64 ((N:Nat):Int)),(11,.int .i64 ((i:Nat):Int)),(12,.bool true),(13,.int .i64 ((i:Nat):Int)),(6,.int .i64 ((i:Nat):Int))] ⟨rfl,rfl,rfl,rfl,rfl,rfl,rfl,rfl,rfl,rfl,trivial⟩ ?_)))))))))))))
  obtain⟨pz12,sz12,Bz12,nz12,cz12,hpz12,ldz12,hKz12,ez12⟩:=(l_VA).at (i:=i) (by omega)
  have zz12:=ez12.zr
  have Lz12:ln (us.getD i 0)≤68719476736:=zz12.ln_le hKz12
  obtain⟨pz13,sz13,Bz13,nz13,cz13,hpz13,ldz13,hKz13,ez13⟩:=(l_RA).at (i:=i) (by omega)
  have zz13:=ez13.zr
  have Lz13:ln (ts.getD i 0)≤68719476736:=zz13.ln_le hKz13
  refine cw_twin mix 41 [F0,S0] [.bool sz12,.slice Bz12 nz12 cz12] [.bool sz13,.slice Bz13 nz13 cz13] 8 10 3 9 11 7 [.slice VA N vc,.int .i64 ((i:Nat):Int),.pointer (some pz12),.agg #[.bool sz12,.slice Bz12 nz12 cz12],.slice RA N rc,.int .i64 ((i:Nat):Int),.pointer (some pz13),.agg #[.bool sz13,.slice Bz13 nz13 cz13],undef,undef,undef,undef] [0,1,2,3,4,5,6,7] [[],[],[0,1],[2],[],[],[4,5],[6],[],[],[],[]] [[],[],[0,1],[0,1,2],[],[],[4,5],[4,5,6],[],[],[0,1,2,3,8,9],[0,1,2,3,4,5,6,7,8,9,10]] [(0,0),(0,1),(0,2),(1,0),(1,1),(1,2),(2,0),(2,1),(2,2),(3,0),(3,1),(3,2),(4,0),(4,1),(4,2),(5,0),(5,1),(5,2),(6,0),(6,1),(6,2),(7,0),(7,1),(7,2),(8,0),(8,1),(8,2),(9,0),(9,1),(9,2),(10,0),(10,1),(10,2),(11,0),(11,1),(11,2)] rfl rfl (makes rfl (z:= .agg #[F0,S0]) (fun _=>by kernel_rfl) rfl) (makes rfl (z:= .agg #[F0,S0]) (fun _=>by kernel_rfl) rfl) (fills rfl rfl rfl rfl (fun _ _=>rfl) (fun _ _=>rfl) aggInt rfl rfl rfl) (fills rfl rfl rfl rfl (fun _ _=>rfl) (fun _ _=>rfl) aggInt rfl rfl rfl) ?_ ?_
  · 
   refine vobs_cons rfl rfl rfl (fun v14 e15=>(rd_move rfl)) (vobs_cons rfl rfl rfl (fun v16 e17=>(rd_move rfl)) (vobs_cons rfl rfl rfl (fun v18 e19=>(rd_idx rfl rfl elemI aggInt.size i rfl (by omega) pz12 hpz12)) (vobs_cons rfl rfl rfl (fun v20 e21=>(rd_load rfl (ldz12 _ e21 _ _ aggInt))) (vobs_cons rfl rfl rfl (fun v22 e23=>(rd_move rfl)) (vobs_cons rfl rfl rfl (fun v24 e25=>(rd_move rfl)) (vobs_cons rfl rfl rfl (fun v26 e27=>(rd_idx rfl rfl elemI aggInt.size i rfl (by omega) pz13 hpz13)) (vobs_cons rfl rfl rfl (fun v28 e29=>(rd_load rfl (ldz13 _ e29 _ _ aggInt))) ?_)))))))
   exact trivial
  · 
   intro g30 g31 v32 e33 q34 ge35 ge36 hb37 hb38
   have q39:g3<g30:=Nat.lt_of_lt_of_le b_g3.lt ge35
   have ne40:∀p:Addr,VA=some p→p.block≠g30:=fun p hp=>by have:=(l_VA).block p hp;have:=ge35;omega
   have ne41:∀p:Addr,RA=some p→p.block≠g30:=fun p hp=>by have:=(l_RA).block p hp;have:=ge35;omega
   have ge35:w.heap.size≤g30:=Nat.le_trans hw1.size ge35
   have q42:g3<g31:=Nat.lt_of_lt_of_le b_g3.lt ge36
   have ne43:∀p:Addr,VA=some p→p.block≠g31:=fun p hp=>by have:=(l_VA).block p hp;have:=ge36;omega
   have ne44:∀p:Addr,RA=some p→p.block≠g31:=fun p hp=>by have:=(l_RA).block p hp;have:=ge36;omega
   have ge36:w.heap.size≤g31:=Nat.le_trans hw1.size ge36
   have hw2:UpS (S2 VA RA) w v32:=hw1.ext e33
   refine eo_keep [(0,.slice VA N vc),(1,.slice RA N rc),(2,.agg #[.bool sk1,.slice Ak1 nk1 ck1,.bool sk2,.slice Ak2 nk2 ck2,.bool sk3,.slice Ak3 nk3 ck3,.bool sk4,.slice Ak4 nk4 ck4]),(5,.pointer (some ⟨g3,0,none⟩)),(9,.slice VA N vc),(10,.int .i64 ((N:Nat):Int)),(11,.int .i64 ((i:Nat):Int)),(12,.bool true),(13,.int .i64 ((i:Nat):Int)),(6,.int .i64 ((i:Nat):Int)),(14,.slice VA N vc),(15,.int .i64 ((i:Nat):Int)),(16,.pointer (some pz12)),(17,.agg #[.bool sz12,.slice Bz12 nz12 cz12]),(18,.slice RA N rc),(19,.int .i64 ((i:Nat):Int)),(20,.pointer (some pz13)),(21,.agg #[.bool sz13,.slice Bz13 nz13 cz13]),(7,.pointer (some ⟨g30,0,none⟩)),(8,.pointer (some ⟨g31,0,none⟩))] ⟨rfl,rfl,rfl,rfl,rfl,rfl,rfl,rfl,rfl,rfl,rfl,rfl,rfl,rfl,rfl,rfl,rfl,rfl,rfl,rfl,trivial⟩ (eo_then (cw_seq ?_))
   have L45:ln (x2*(ts.getD i 0))≤68719476736:=by rw [hB.2 i (Nat.le_refl _)];exact hq2 i hiN
   have L47:ln (x1*(us.getD i 0)+(x2*(ts.getD i 0)))≤68719476736:=(by rw [hA.2 i (Nat.le_refl _),hB.2 i (Nat.le_refl _)];exact hb1 i hiN)
   refine cw_draw mix 13 [] [Is (.slice VA N vc),Is (.int .i64 ((i:Nat):Int)),Is (.pointer (some ⟨g3,0,none⟩)),Is (.pointer (some ⟨g3,0,none⟩)),Is (.agg #[.bool sk1,.slice Ak1 nk1 ck1]),Is (.agg #[.bool sz12,.slice Bz12 nz12 cz12]),Is (.pointer (some ⟨g3,0,none⟩)),Is (.pointer (some ⟨g3,2,none⟩)),Is (.agg #[.bool sk2,.slice Ak2 nk2 ck2]),Is (.agg #[.bool sz13,.slice Bz13 nz13 cz13]),ZR w.heap.size (x2*(ts.getD i 0)),ZR w.heap.size (x1*(us.getD i 0)+(x2*(ts.getD i 0))),Is (.pointer (some pz12))] [[],[],[],[2],[3],[],[],[6],[7],[],[8,9],[4,5,10],[0,1]] [[],[],[],[2],[2,3],[],[],[6],[6,7],[],[6,7,8,9],[2,3,4,5,6,7,8,9,10],[0,1,2,3,4,5,6,7,8,9,10,11],[0,1,2,3,4,5,6,7,8,9,10,11,12]] rfl
    (obs_cons rfl rfl (hob rfl rfl ?_) (obs_cons rfl rfl (hob rfl rfl ?_) (obs_cons rfl rfl (hob rfl rfl ?_) (obs_cons rfl rfl (hob rfl rfl ?_) (obs_cons rfl rfl (hob rfl rfl ?_) (obs_cons rfl rfl (hob rfl rfl ?_) (obs_cons rfl rfl (hob rfl rfl ?_) (obs_cons rfl rfl (hob rfl rfl ?_) (obs_cons rfl rfl (hob rfl rfl ?_) (obs_cons rfl rfl (hob rfl rfl ?_) (obs_cons rfl rfl (hob rfl rfl ?_) (obs_cons rfl rfl (hob rfl rfl ?_) (obs_cons rfl rfl (hob rfl rfl ?_) obs_nil))))))))))))) ?_
   · 
    intro v49 e50
    have hw3:UpS (S2 VA RA) w v49:=hw2.ext e50
    refine deps_nil (mv 1 rfl ?_)
    exact pi_done rfl (Ext.refl _) rfl
   · 
    intro v51 e52
    have hw3:UpS (S2 VA RA) w v51:=hw2.ext e52
    refine deps_nil (mv 1 rfl ?_)
    exact pi_done rfl (Ext.refl _) rfl
   · 
    intro v53 e54
    have hw3:UpS (S2 VA RA) w v53:=hw2.ext e54
    refine deps_nil (pf g3 0 rfl (by kernel_rfl) ?_)
    exact pi_done rfl (Ext.refl _) rfl
   · 
    intro v55 e56
    have hw3:UpS (S2 VA RA) w v55:=hw2.ext e56
    refine dk rfl rfl (deps_nil (pf g3 0 rfl (by kernel_rfl) ?_))
    exact pi_done rfl (Ext.refl _) rfl
   · 
    intro v62 e63
    have hw3:UpS (S2 VA RA) w v62:=hw2.ext e63
    refine dk rfl rfl (deps_nil (lo aggInt (b_g3.ext (e33.trans e63)) [.bool sk1,.slice Ak1 nk1 ck1] rfl rfl rfl ?_))
    exact pi_done rfl (Ext.refl _) rfl
   · 
    intro v69 e70
    have hw3:UpS (S2 VA RA) w v69:=hw2.ext e70
    refine deps_nil (lo aggInt (hb37.ext e70) [.bool sz12,.slice Bz12 nz12 cz12] rfl rfl rfl ?_)
    exact pi_done rfl (Ext.refl _) rfl
   · 
    intro v71 e72
    have hw3:UpS (S2 VA RA) w v71:=hw2.ext e72
    refine deps_nil (pf g3 0 rfl (by kernel_rfl) ?_)
    exact pi_done rfl (Ext.refl _) rfl
   · 
    intro v73 e74
    have hw3:UpS (S2 VA RA) w v73:=hw2.ext e74
    refine dk rfl rfl (deps_nil (pf g3 2 rfl (by kernel_rfl) ?_))
    exact pi_done rfl (Ext.refl _) rfl
   · 
    intro v80 e81
    have hw3:UpS (S2 VA RA) w v80:=hw2.ext e81
    refine dk rfl rfl (deps_nil (lo aggInt (b_g3.ext (e33.trans e81)) [.bool sk2,.slice Ak2 nk2 ck2] rfl rfl rfl ?_))
    exact pi_done rfl (Ext.refl _) rfl
   · 
    intro v87 e88
    have hw3:UpS (S2 VA RA) w v87:=hw2.ext e88
    refine deps_nil (lo aggInt (hb38.ext e88) [.bool sz13,.slice Bz13 nz13 cz13] rfl rfl rfl ?_)
    exact pi_done rfl (Ext.refl _) rfl
   · 
    intro v89 e90
    have hw3:UpS (S2 VA RA) w v89:=hw2.ext e90
    refine dk rfl rfl (dk rfl rfl (deps_nil ?_))
    have L101:ln (x2*(ts.getD i 0))≤68719476736:=by rw [hB.2 i (Nat.le_refl _)];exact hq2 i hiN
    refine wl_call rfl rfl (vs:= [.agg #[.bool sk2,.slice Ak2 nk2 ck2],.agg #[.bool sz13,.slice Bz13 nz13 cz13]]) (by kernel_rfl) (by decide) (g_zint_Mul hw3.size (z_g3_2.ext (e33.trans e90)).zi (z_g3_2.le (lx_ Lk2 rfl)) (zz13.ext (e33.trans e90)).zi (zz13.le (lx_ Lz13 rfl))) ?_
    rintro _ v102 ⟨xr104,rfl,r104,e103⟩
    refine ret_intro ?_
    have hw4:UpS (S2 VA RA) w v102:=hw3.ext e103
    obtain⟨s105,A105,n105,c105,rfl,z105⟩:=r104
    exact pi_done rfl e103 ⟨_,_,_,_,rfl,z105⟩
   · 
    intro v106 e107
    have hw3:UpS (S2 VA RA) w v106:=hw2.ext e107
    refine dk rfl rfl (dk rfl rfl (deps_cons rfl rfl fun x118 y119 h120 e121 f122=>?_))
    obtain⟨s123,A123,n123,c123,rfl,z123⟩:=h120
    have z123:=z123.ext f122
    refine deps_nil ?_
    have L124:ln (x1*(us.getD i 0)+(x2*(ts.getD i 0)))≤68719476736:=(by rw [hA.2 i (Nat.le_refl _),hB.2 i (Nat.le_refl _)];exact hb1 i hiN)
    refine wl_call rfl rfl (vs:= [.agg #[.bool sk1,.slice Ak1 nk1 ck1],.agg #[.bool sz12,.slice Bz12 nz12 cz12],.agg #[.bool s123,.slice A123 n123 c123]]) (by kernel_rfl) (by decide) (g_zint_MulAdd hw3.size (z_g3_1.ext (e33.trans e107)).zi (z_g3_1.le (lx_ Lk1 rfl)) (zz12.ext (e33.trans e107)).zi (zz12.le (lx_ Lz12 rfl)) z123.zi (z123.le (lx_ L45 rfl))) ?_
    rintro _ v125 ⟨xr127,rfl,r127,e126⟩
    refine ret_intro ?_
    have hw4:UpS (S2 VA RA) w v125:=hw3.ext e126
    obtain⟨s128,A128,n128,c128,rfl,z128⟩:=r127
    exact pi_done rfl e126 ⟨_,_,_,_,rfl,z128⟩
   · 
    intro v129 e130
    have hw3:UpS (S2 VA RA) w v129:=hw2.ext e130
    refine dk rfl rfl (dk rfl rfl (deps_nil (wl_idx rfl rfl rfl elemI aggInt.size i rfl (by omega) pz12 hpz12 (by decide) ?_)))
    exact pi_done rfl (Ext.refl _) rfl
   · 
    intro v141 e142
    have hw3:UpS (S2 VA RA) w v141:=hw2.ext e142
    refine dk rfl rfl (dk rfl rfl (dk rfl rfl (dk rfl rfl (dk rfl rfl (dk rfl rfl (dk rfl rfl (dk rfl rfl (dk rfl rfl (dk rfl rfl (deps_cons rfl rfl fun x193 y194 h195 e196 f197=>?_))))))))))
    obtain⟨s198,A198,n198,c198,rfl,z198⟩:=h195
    have z198:=z198.ext f197
    refine deps_cons rfl rfl fun x199 y200 h201 e202 f203=>?_
    obtain⟨s204,A204,n204,c204,rfl,z204⟩:=h201
    have z204:=z204.ext f203
    refine dk rfl rfl (deps_nil ?_)
    have lt215:=(l_VA.ext (e33.trans e142))
    obtain⟨us213,own214⟩:=lt215.own
    refine wl_setI (e:=⟨s204,A204,n204,c204⟩) (z:=x1*(us.getD i 0)+(x2*(ts.getD i 0))) rfl rfl rfl hpz12 (by omega) lt215 (Or.inl (z204.mono (Nat.zero_le _))) (z204.le (lx_ L47 rfl)) fun v210 lz211 uo212=>?_
    have hw4:UpS (S2 VA RA) w v210:=hw3.trans (UpS.of_updO uo212 fun p hp=>Or.inl ⟨p,hp,rfl⟩)
    have hlblz211:lb≤v210.heap.size:=Nat.le_trans (Nat.le_trans (Nat.le_trans l_VAb e33.size) e142.size) uo212.size
    refine wl_nil (eo_np (eo_then ?_))
    have L216:ln (x4*(ts.getD i 0))≤68719476736:=by rw [hB.2 i (Nat.le_refl _)];exact hq4 i hiN
    have L218:ln (x3*(us.getD i 0)+(x4*(ts.getD i 0)))≤68719476736:=(by rw [hA.2 i (Nat.le_refl _),hB.2 i (Nat.le_refl _)];exact hb2 i hiN)
    obtain⟨pz220,sz220,Bz220,nz220,cz220,hpz220,ldz220,hKz220,ez220⟩:=(((l_RA.ext (e33.trans e142)).updO own214 uo212 (fun p q hp hq e=>d_l_RA_l_VA q p hq hp e.symm))).at (i:=i) (by omega)
    have zz220:=ez220.zr
    have Lz220:ln (ts.getD i 0)≤68719476736:=zz220.ln_le hKz220
    refine cw_draw mix 13 [] [Is (.slice RA N rc),Is (.int .i64 ((i:Nat):Int)),Is (.pointer (some ⟨g3,4,none⟩)),Is (.pointer (some ⟨g3,4,none⟩)),Is (.agg #[.bool sk3,.slice Ak3 nk3 ck3]),Is (.agg #[.bool sz12,.slice Bz12 nz12 cz12]),Is (.pointer (some ⟨g3,4,none⟩)),Is (.pointer (some ⟨g3,6,none⟩)),Is (.agg #[.bool sk4,.slice Ak4 nk4 ck4]),Is (.agg #[.bool sz13,.slice Bz13 nz13 cz13]),ZR w.heap.size (x4*(ts.getD i 0)),ZR w.heap.size (x3*(us.getD i 0)+(x4*(ts.getD i 0))),Is (.pointer (some pz220))] [[],[],[],[2],[3],[],[],[6],[7],[],[8,9],[4,5,10],[0,1]] [[],[],[],[2],[2,3],[],[],[6],[6,7],[],[6,7,8,9],[2,3,4,5,6,7,8,9,10],[0,1,2,3,4,5,6,7,8,9,10,11],[0,1,2,3,4,5,6,7,8,9,10,11,12]] rfl
     (obs_cons rfl rfl (hob rfl rfl ?_) (obs_cons rfl rfl (hob rfl rfl ?_) (obs_cons rfl rfl (hob rfl rfl ?_) (obs_cons rfl rfl (hob rfl rfl ?_) (obs_cons rfl rfl (hob rfl rfl ?_) (obs_cons rfl rfl (hob rfl rfl ?_) (obs_cons rfl rfl (hob rfl rfl ?_) (obs_cons rfl rfl (hob rfl rfl ?_) (obs_cons rfl rfl (hob rfl rfl ?_) (obs_cons rfl rfl (hob rfl rfl ?_) (obs_cons rfl rfl (hob rfl rfl ?_) (obs_cons rfl rfl (hob rfl rfl ?_) (obs_cons rfl rfl (hob rfl rfl ?_) obs_nil))))))))))))) ?_
    · 
     intro v221 e222
     have hw5:UpS (S2 VA RA) w v221:=hw4.ext e222
     refine deps_nil (mv 1 rfl ?_)
     exact pi_done rfl (Ext.refl _) rfl
    · 
     intro v223 e224
     have hw5:UpS (S2 VA RA) w v223:=hw4.ext e224
     refine deps_nil (mv 1 rfl ?_)
     exact pi_done rfl (Ext.refl _) rfl
    · 
     intro v225 e226
     have hw5:UpS (S2 VA RA) w v225:=hw4.ext e226
     refine deps_nil (pf g3 4 rfl (by kernel_rfl) ?_)
     exact pi_done rfl (Ext.refl _) rfl
    · 
     intro v227 e228
     have hw5:UpS (S2 VA RA) w v227:=hw4.ext e228
     refine dk rfl rfl (deps_nil (pf g3 4 rfl (by kernel_rfl) ?_))
     exact pi_done rfl (Ext.refl _) rfl
    · 
     intro v234 e235
     have hw5:UpS (S2 VA RA) w v234:=hw4.ext e235
     refine dk rfl rfl (deps_nil (lo aggInt (((b_g3.ext (e33.trans e142)).updO uo212 l_VA_g3).ext e235) [.bool sk3,.slice Ak3 nk3 ck3] rfl rfl rfl ?_))
     exact pi_done rfl (Ext.refl _) rfl
    · 
     intro v241 e242
     have hw5:UpS (S2 VA RA) w v241:=hw4.ext e242
     refine deps_nil (lo aggInt (((hb37.ext e142).updO uo212 ne40).ext e242) [.bool sz12,.slice Bz12 nz12 cz12] rfl rfl rfl ?_)
     exact pi_done rfl (Ext.refl _) rfl
    · 
     intro v243 e244
     have hw5:UpS (S2 VA RA) w v243:=hw4.ext e244
     refine deps_nil (pf g3 4 rfl (by kernel_rfl) ?_)
     exact pi_done rfl (Ext.refl _) rfl
    · 
     intro v245 e246
     have hw5:UpS (S2 VA RA) w v245:=hw4.ext e246
     refine dk rfl rfl (deps_nil (pf g3 6 rfl (by kernel_rfl) ?_))
     exact pi_done rfl (Ext.refl _) rfl
    · 
     intro v252 e253
     have hw5:UpS (S2 VA RA) w v252:=hw4.ext e253
     refine dk rfl rfl (deps_nil (lo aggInt (((b_g3.ext (e33.trans e142)).updO uo212 l_VA_g3).ext e253) [.bool sk4,.slice Ak4 nk4 ck4] rfl rfl rfl ?_))
     exact pi_done rfl (Ext.refl _) rfl
    · 
     intro v259 e260
     have hw5:UpS (S2 VA RA) w v259:=hw4.ext e260
     refine deps_nil (lo aggInt (((hb38.ext e142).updO uo212 ne43).ext e260) [.bool sz13,.slice Bz13 nz13 cz13] rfl rfl rfl ?_)
     exact pi_done rfl (Ext.refl _) rfl
    · 
     intro v261 e262
     have hw5:UpS (S2 VA RA) w v261:=hw4.ext e262
     refine dk rfl rfl (dk rfl rfl (deps_nil ?_))
     have L273:ln (x4*(ts.getD i 0))≤68719476736:=by rw [hB.2 i (Nat.le_refl _)];exact hq4 i hiN
     refine wl_call rfl rfl (vs:= [.agg #[.bool sk4,.slice Ak4 nk4 ck4],.agg #[.bool sz13,.slice Bz13 nz13 cz13]]) (by kernel_rfl) (by decide) (g_zint_Mul hw5.size (((z_g3_4.ext (e33.trans e142)).updOT own214 uo212).ext e262).zi (z_g3_4.le (lx_ Lk4 rfl)) (((zz13.ext (e33.trans e142)).updOT own214 uo212).ext e262).zi (zz13.le (lx_ Lz13 rfl))) ?_
     rintro _ v274 ⟨xr276,rfl,r276,e275⟩
     refine ret_intro ?_
     have hw6:UpS (S2 VA RA) w v274:=hw5.ext e275
     obtain⟨s277,A277,n277,c277,rfl,z277⟩:=r276
     exact pi_done rfl e275 ⟨_,_,_,_,rfl,z277⟩
    · 
     intro v278 e279
     have hw5:UpS (S2 VA RA) w v278:=hw4.ext e279
     refine dk rfl rfl (dk rfl rfl (deps_cons rfl rfl fun x290 y291 h292 e293 f294=>?_))
     obtain⟨s295,A295,n295,c295,rfl,z295⟩:=h292
     have z295:=z295.ext f294
     refine deps_nil ?_
     have L296:ln (x3*(us.getD i 0)+(x4*(ts.getD i 0)))≤68719476736:=(by rw [hA.2 i (Nat.le_refl _),hB.2 i (Nat.le_refl _)];exact hb2 i hiN)
     refine wl_call rfl rfl (vs:= [.agg #[.bool sk3,.slice Ak3 nk3 ck3],.agg #[.bool sz12,.slice Bz12 nz12 cz12],.agg #[.bool s295,.slice A295 n295 c295]]) (by kernel_rfl) (by decide) (g_zint_MulAdd hw5.size (((z_g3_3.ext (e33.trans e142)).updOT own214 uo212).ext e279).zi (z_g3_3.le (lx_ Lk3 rfl)) (((zz12.ext (e33.trans e142)).updOT own214 uo212).ext e279).zi (zz12.le (lx_ Lz12 rfl)) z295.zi (z295.le (lx_ L216 rfl))) ?_
     rintro _ v297 ⟨xr299,rfl,r299,e298⟩
     refine ret_intro ?_
     have hw6:UpS (S2 VA RA) w v297:=hw5.ext e298
     obtain⟨s300,A300,n300,c300,rfl,z300⟩:=r299
     exact pi_done rfl e298 ⟨_,_,_,_,rfl,z300⟩
    · 
     intro v301 e302
     have hw5:UpS (S2 VA RA) w v301:=hw4.ext e302
     refine dk rfl rfl (dk rfl rfl (deps_nil (wl_idx rfl rfl rfl elemI aggInt.size i rfl (by omega) pz220 hpz220 (by decide) ?_)))
     exact pi_done rfl (Ext.refl _) rfl
    · 
     intro v313 e314
     have hw5:UpS (S2 VA RA) w v313:=hw4.ext e314
     refine dk rfl rfl (dk rfl rfl (dk rfl rfl (dk rfl rfl (dk rfl rfl (dk rfl rfl (dk rfl rfl (dk rfl rfl (dk rfl rfl (dk rfl rfl (deps_cons rfl rfl fun x365 y366 h367 e368 f369=>?_))))))))))
     obtain⟨s370,A370,n370,c370,rfl,z370⟩:=h367
     have z370:=z370.ext f369
     refine deps_cons rfl rfl fun x371 y372 h373 e374 f375=>?_
     obtain⟨s376,A376,n376,c376,rfl,z376⟩:=h373
     have z376:=z376.ext f375
     refine dk rfl rfl (deps_nil ?_)
     have lt387:=(((l_RA.ext (e33.trans e142)).updO own214 uo212 (fun p q hp hq e=>d_l_RA_l_VA q p hq hp e.symm)).ext e314)
     obtain⟨us385,own386⟩:=lt387.own
     refine wl_setI (e:=⟨s376,A376,n376,c376⟩) (z:=x3*(us.getD i 0)+(x4*(ts.getD i 0))) rfl rfl rfl hpz220 (by omega) lt387 (Or.inl (z376.mono (Nat.zero_le _))) (z376.le (lx_ L218 rfl)) fun v382 lz383 uo384=>?_
     have hw6:UpS (S2 VA RA) w v382:=hw5.trans (UpS.of_updO uo384 fun p hp=>Or.inr ⟨p,hp,rfl⟩)
     have hlblz383:lbr≤v382.heap.size:=Nat.le_trans (Nat.le_trans (Nat.le_trans (Nat.le_trans (Nat.le_trans l_RAb e33.size) e142.size) uo212.size) e314.size) uo384.size
     refine wl_nil (eo_np (eo_block_normal (eo_then (cw_region (wl_ar rfl rfl rfl ((i+1:Nat):Int) (ai_add (a:=i) (b:=1) rfl rfl (by omega)) (by decide) (mv 1 rfl (wl_nil (eo_round (⟨v382,i+1,us.set i (x1*(us.getD i 0)+(x2*(ts.getD i 0))),ts.set i (x3*(us.getD i 0)+(x4*(ts.getD i 0)))⟩:World×Nat×List Int×List Int) ⟨hw6,(by omega),((((b_g3.ext (e33.trans e142)).updO uo212 l_VA_g3).ext e314).updO uo384 l_RA_g3),((((z_g3_1.ext (e33.trans e142)).updOT own214 uo212).ext e314).updOT own386 uo384),((((z_g3_2.ext (e33.trans e142)).updOT own214 uo212).ext e314).updOT own386 uo384),((((z_g3_3.ext (e33.trans e142)).updOT own214 uo212).ext e314).updOT own386 uo384),((((z_g3_4.ext (e33.trans e142)).updOT own214 uo212).ext e314).updOT own386 uo384),(Nat.le_trans (Nat.le_trans hlblz211 e314.size) uo384.size),((lz211.ext e314).updO own386 uo384 d_l_RA_l_VA),l_VA_g3,hlblz383,lz383,l_RA_g3,d_l_RA_l_VA,(hA.next (by rw [l_VA.len];exact hiN) (hA.2 i (Nat.le_refl _)) (hB.2 i (Nat.le_refl _))),(hB.next (by rw [l_RA.len];exact hiN) (hA.2 i (Nat.le_refl _)) (hB.2 i (Nat.le_refl _)))⟩ (show N-(i+1)<N-i by omega) rfl ⟨rfl,rfl,rfl,rfl,rfl,rfl,rfl,trivial⟩))))))))
 · 
  refine cw_region (wl_cmp rfl rfl rfl false (cb_lt_f (a:=i) (b:=N) rfl rfl (by omega)) (by decide) (ne_ (cw_seq (cw_false rfl (cw_exit (eo_thenX (eo_loopX (eo_block_here (eo_end [] rfl trivial ?_)))))))))
  exact⟨us,ts,rfl,l_VA,l_RA,(fun b hb=>hA.1 b (by omega)),(fun b hb=>hB.1 b (by omega)),hw1⟩
set_option maxHeartbeats 4000000 in
set_option maxRecDepth 20000 in
theorem g_lad_Lead {w:World}{Ap:Option Addr}{np capp:Nat}{ps:List Int}(hxp:ZF w Ap np capp 68719476736 ps) (hnp:np≤1048576):
    Calls Tryz.prog 89 #[.slice Ap np capp] w (Gv w (Is (.int .i64 ((ldr np (fun j=>ps.getD j 0):Nat):Int)))):=by
 obtain⟨msp,hlp,hmp⟩:=hxp
 refine sx_enter Tryz.func89 rfl (n:=19) rfl (bq rfl) (args:= [.slice Ap np capp]) (cw_keep [(0,.slice Ap np capp)] ⟨rfl,trivial⟩ (sr (mv 1 rfl (ne_ (cw_seq (sr (mv 1 rfl (pu (v:= .int .i64 ((np:Nat):Int)) rfl (by kernel_rfl) (mv 1 rfl (ne_ (cw_block ?_)))))))))))
 refine cw_loop (T:=World×Nat) (fun⟨wr,i⟩=> [(0,.slice Ap np capp),(2,.int .i64 0),(5,.slice Ap np capp),(6,.int .i64 ((np:Nat):Int)),(7,.int .i64 ((i:Nat):Int))]) (fun⟨wr,i⟩=>wr) (fun⟨wr,i⟩=>(Ext w wr)∧(i≤np)∧(∀j,j<i→ps.getD j 0=0)) (fun⟨wr,i⟩=>np-i)
  (⟨w,0⟩:World×Nat) ⟨(Ext.refl w),(by omega),(fun j h=>absurd h (Nat.not_lt_zero j))⟩ rfl ⟨rfl,rfl,rfl,rfl,rfl,trivial⟩ ?_
 rintro⟨wr,i⟩ ⟨hw1,hi_i,hz⟩
 refine cw_re [(0,.slice Ap np capp),(2,.int .i64 0),(5,.slice Ap np capp),(6,.int .i64 ((np:Nat):Int)),(7,.int .i64 ((i:Nat):Int))] wr rfl ⟨rfl,rfl,rfl,rfl,rfl,trivial⟩ (cw_seq ?_)
 by_cases hin:i<np
 · 
  refine cw_region (wl_cmp rfl rfl rfl true (cb_lt_t (a:=i) (b:=np) rfl rfl (by omega)) (by decide) (ne_ (cw_seq (cw_true rfl (cw_skip (eo_then (cw_seq (cw_block (sr (mv 1 rfl ?_))))))))))
  obtain⟨pz1,sz1,Bz1,cz1,hpz1,ldz1,ez1⟩:=hlp.at (i:=i) (by omega)
  refine wl_idx rfl rfl rfl elemI aggInt.size i rfl (by omega) pz1 hpz1 (by decide) (wl_load rfl rfl (ldz1 _ hw1 _ _ aggInt) (by decide) (al [F0,S0] hw1 (fun _=>by kernel_rfl) rfl fun g2 v3 hb5 ge6 e4 hw2=>(mv 1 rfl (so aggInt hb5 [.bool sz1,.slice Bz1 (msp.getD i 0) cz1] hw2 ge6 rfl rfl rfl rfl fun v7 hb9 u10 hw3=>(ne_ (cw_seq ?_))))))
  by_cases hi0:ps.getD i 0=0
  · 
   refine cw_region (lo aggInt hb9 [.bool sz1,.slice Bz1 (msp.getD i 0) cz1] rfl rfl rfl (cl (vs:= [.agg #[.bool sz1,.slice Bz1 (msp.getD i 0) cz1]]) hw3 (g_zint_Sign (ez1.ext hw3) (Nat.le_trans (hmp i) (by decide))) rfl (by kernel_rfl) fun xr14 v12 r14 e13 hw4=>?_))
   obtain rfl:=r14
   refine wl_cmp rfl rfl rfl false (scmp_ne_f hi0) (by decide) (ne_ (cw_false rfl (cw_skip (eo_block_normal (eo_then (cw_region (wl_ar rfl rfl rfl ((i+1:Nat):Int) (ai_add (a:=i) (b:=1) rfl rfl (by omega)) (by decide) (mv 1 rfl (wl_nil (eo_round (⟨v12,i+1⟩:World×Nat) ⟨hw4,(by omega),(fun j hj=>if h9:j<i then hz j h9 else (show i=j by omega)▸hi0)⟩ (show np-(i+1)<np-i by omega) rfl ⟨rfl,rfl,rfl,rfl,rfl,trivial⟩))))))))))
  · 
   refine cw_region (lo aggInt hb9 [.bool sz1,.slice Bz1 (msp.getD i 0) cz1] rfl rfl rfl (cl (vs:= [.agg #[.bool sz1,.slice Bz1 (msp.getD i 0) cz1]]) hw3 (g_zint_Sign (ez1.ext hw3) (Nat.le_trans (hmp i) (by decide))) rfl (by kernel_rfl) fun xr17 v15 r17 e16 hw4=>?_))
   obtain rfl:=r17
   refine wl_cmp rfl rfl rfl true (scmp_ne_t hi0) (by decide) (ne_ (cw_true rfl (sr (mv 2 rfl (ne_ (cw_ret (eo_block_ret (eo_thenR (eo_loopR (eo_block_ret (eo_thenR (eo_ret [.int .i64 ((i:Nat):Int)] rfl ⟨rfl,trivial⟩ ?_))))))))))))
   rw [show ldr np (fun j=>ps.getD j 0)=i from ldr_eq hz hin hi0]
   exact⟨_,rfl,rfl,hw4⟩
 · 
  refine cw_region (wl_cmp rfl rfl rfl false (cb_lt_f (a:=i) (b:=np) rfl rfl (by omega)) (by decide) (ne_ (cw_seq (cw_false rfl (cw_exit (eo_thenX (eo_loopX (eo_block_here (eo_then (sr (mv 1 rfl (pu (v:= .int .i64 ((np:Nat):Int)) rfl (by kernel_rfl) (mv 1 rfl ?_)))))))))))))
  refine ne_ (cw_ret (eo_ret [.int .i64 ((np:Nat):Int)] rfl ⟨rfl,trivial⟩ ?_))
  rw [show ldr np (fun j=>ps.getD j 0)=np from ldr_all fun j hj=>hz j (by omega)]
  exact⟨_,rfl,rfl,hw1⟩
set_option maxHeartbeats 4000000 in
theorem g_lk_swap {w:World}{lb n cc gr:Nat}{RA:Option Addr}{rcap:Nat}{ra:Nat→Option Addr}{rc:Nat→Nat}{ps:List Nat}{Z:Mx}(_hlb:lb≤w.heap.size) (_hA:Ap2 n RA ra) (hR:Own w lb 22 1 RA n rcap (ps.map (rwv ra rc cc))) (_hC:Rcs 68719476736 lb n cc ra rc w Z) (_hcc:cc≤64) (_hPer:Per n ps) (hgr:Bk w gr 54 [.slice RA n rcap]) (_hnr:∀r,r<n→∀p:Addr,ra r=some p→p.block≠gr) (hnR:∀p:Addr,RA=some p→p.block≠gr){i j:Nat}(hi2:i<n) (hj2:j<n):
    Calls Tryz.prog 83 #[.int .i64 ((i:Nat):Int),.int .i64 ((j:Nat):Int),.pointer (some ⟨gr,0,none⟩)] w (fun e w'=>e= .returned (.tuple #[])∧Own w' lb 22 1 RA n rcap ((swp ps i j).map (rwv ra rc cc))∧UpdO RA w w'):=by
 have hcap:=hR.rv.le
 refine sx_enter Tryz.func83 rfl (n:=19) rfl (bq rfl) (args:= [.int .i64 ((i:Nat):Int),.int .i64 ((j:Nat):Int),.pointer (some ⟨gr,0,none⟩)]) ?_
 have hlt_gr:=hgr.lt
 refine cw_keep [(0,.int .i64 ((i:Nat):Int)),(1,.int .i64 ((j:Nat):Int)),(2,.pointer (some ⟨gr,0,none⟩))] ⟨rfl,rfl,rfl,trivial⟩ (cw_keep [(0,.int .i64 ((i:Nat):Int)),(1,.int .i64 ((j:Nat):Int)),(2,.pointer (some ⟨gr,0,none⟩))] ⟨rfl,rfl,rfl,trivial⟩ ?_)
 obtain⟨v1,hv,e2⟩:∃v,v=w.drew∧Ext w v:=⟨_,rfl,(Ext.refl _).drew⟩
 have hw1:UpdO RA w v1:=UO.ext (UO.refl RA w) e2
 obtain⟨pz3,hpz3,hcz3⟩:=((hR.ext e2)).rowAt (i:=j) (by omega)
 obtain⟨pz4,hpz4,hcz4⟩:=((hR.ext e2)).rowAt (i:=i) (by omega)
 have lt5:=(hR.ext e2)
 obtain⟨v6,hr7,own8,uo9⟩:=run_setRow lt5 (by omega) hpz4 (ps.getD j 0)
 have hw2:UpdO RA w v6:=UO.trans hw1 uo9
 obtain⟨pz10,hpz10,hcz10⟩:=(own8).rowAt (i:=j) (by omega)
 have lt11:=own8
 obtain⟨v12,hr13,own14,uo15⟩:=run_setRow lt11 (by omega) hpz10 (ps.getD i 0)
 have hw3:UpdO RA w v12:=UO.trans hw2 uo15
 refine cw_det mix (w:=v1) [.slice RA n rcap,.int .i64 ((i:Nat):Int),.slice RA n rcap,.int .i64 ((j:Nat):Int),.slice RA n rcap,.int .i64 ((j:Nat):Int),.pointer (some pz3),.slice (ra (ps.getD j 0)) cc (rc (ps.getD j 0)),.slice RA n rcap,.int .i64 ((i:Nat):Int),.pointer (some pz4),.slice (ra (ps.getD i 0)) cc (rc (ps.getD i 0)),.pointer (some pz4),undef,.pointer (some pz10),undef] [v1,v6,v12] [13,15] [[],[],[],[],[],[],[4,5],[6],[],[],[8,9],[10],[0,1],[7,12],[2,3],[11,14]] [[],[],[],[],[],[],[4,5],[4,5,6],[],[],[8,9],[8,9,10],[0,1,4,5,6,7,8,9,10,11],[0,1,4,5,6,7,8,9,10,11,12],[0,1,2,3,4,5,6,7,8,9,10,11,12,13],[0,1,2,3,4,5,6,7,8,9,10,11,12,13,14]] [(0,0),(1,0),(2,0),(2,1),(3,0),(3,1),(4,0),(5,0),(6,0),(7,0),(8,0),(9,0),(10,0),(11,0),(12,0),(13,0),(14,1),(15,1)] rfl hv ?_ ?_
 · 
  refine dobs_val _ rfl rfl rfl rfl rfl (rd_load rfl (load_cell cellRows (hgr.ext e2) rfl)) (dobs_val _ rfl rfl rfl rfl rfl (rd_move rfl) (dobs_val _ rfl rfl rfl rfl rfl (rd_load rfl (load_cell cellRows (hgr.ext e2) rfl)) (dobs_val _ rfl rfl rfl rfl rfl (rd_load rfl (load_cell cellRows ((hgr.ext e2).updO uo9 hnR) rfl)) (dobs_val _ rfl rfl rfl rfl rfl (rd_move rfl) (dobs_val _ rfl rfl rfl rfl rfl (rd_move rfl) (dobs_val _ rfl rfl rfl rfl rfl (rd_load rfl (load_cell cellRows (hgr.ext e2) rfl)) (dobs_val _ rfl rfl rfl rfl rfl (rd_move rfl) (dobs_val _ rfl rfl rfl rfl rfl (rd_idx rfl rfl unRows szInts j rfl (by omega) pz3 hpz3) (dobs_val _ rfl rfl rfl rfl rfl (rd_load rfl (load_cell1 cellInts hcz3)) (dobs_val _ rfl rfl rfl rfl rfl (rd_load rfl (load_cell cellRows (hgr.ext e2) rfl)) (dobs_val _ rfl rfl rfl rfl rfl (rd_move rfl) (dobs_val _ rfl rfl rfl rfl rfl (rd_idx rfl rfl unRows szInts i rfl (by omega) pz4 hpz4) (dobs_val _ rfl rfl rfl rfl rfl (rd_load rfl (load_cell1 cellInts hcz4)) ?_)))))))))))))
  refine dobs_val _ rfl rfl rfl rfl rfl (rd_idx rfl rfl unRows szInts i rfl (by omega) pz4 hpz4) (dobs_sto _ rfl rfl rfl rfl rfl (rd_store rfl rfl hr7) (dobs_val _ rfl rfl rfl rfl rfl (rd_idx rfl rfl unRows szInts j rfl (by omega) pz10 hpz10) (dobs_sto _ rfl rfl rfl rfl rfl (rd_store rfl rfl hr13) ?_)))
  exact dobs_nil
 clear hv
 refine eo_keep [] trivial (eo_end [] rfl trivial ?_)
 exact⟨rfl,own14,hw3⟩
set_option maxHeartbeats 4000000 in
theorem g_lk_turn {w:World}{lb n cc gr:Nat}{RA:Option Addr}{rcap:Nat}{ra:Nat→Option Addr}{rc:Nat→Nat}{ps:List Nat}{Z:Mx}(_hlb:lb≤w.heap.size) (hA:Ap2 n RA ra) (hR:Own w lb 22 1 RA n rcap (ps.map (rwv ra rc cc))) (hC:Rcs 68719476736 lb n cc ra rc w Z) (hcc:cc≤64) (hPer:Per n ps) (hgr:Bk w gr 54 [.slice RA n rcap]) (hnr:∀r,r<n→∀p:Addr,ra r=some p→p.block≠gr) (_hnR:∀p:Addr,RA=some p→p.block≠gr){i:Nat}(hi2:i<n):
    Calls Tryz.prog 84 #[.int .i64 ((i:Nat):Int),.pointer (some ⟨gr,0,none⟩)] w (fun e w'=>e= .returned (.tuple #[])∧(∃Y,Rcs 68719476736 lb n cc ra rc w' Y∧∀a b,a<n→b<cc→Y (ps.getD a 0) b=if a=i∧b<cc then-Z (ps.getD i 0) b else Z (ps.getD a 0) b)∧UpdO (ra (ps.getD i 0)) w w'):=by
 have hcap:=hR.rv.le
 refine sx_enter Tryz.func84 rfl (n:=24) rfl (bq rfl) (args:= [.int .i64 ((i:Nat):Int),.pointer (some ⟨gr,0,none⟩)]) ?_
 have hlt_gr:=hgr.lt
 refine cw_keep [(0,.int .i64 ((i:Nat):Int)),(1,.pointer (some ⟨gr,0,none⟩))] ⟨rfl,rfl,trivial⟩ (sr (wl_load rfl rfl (load_cell cellRows hgr rfl) (by decide) (mv 1 rfl ?_)))
 obtain⟨pz1,hpz1,hcz1⟩:=(hR).rowAt (i:=i) (by omega)
 refine wl_idx rfl rfl rfl unRows szInts i rfl (by omega) pz1 hpz1 (by decide) (wl_load rfl rfl (load_cell1 cellInts hcz1) (by decide) (pu (v:= .int .i64 ((cc:Nat):Int)) rfl (by kernel_rfl) (mv 1 rfl (ne_ (cw_block ?_)))))
 refine cw_loop (T:=World×Nat×Mx) (fun⟨wr,c,Y⟩=> [(0,.int .i64 ((i:Nat):Int)),(1,.pointer (some ⟨gr,0,none⟩)),(5,.slice RA n rcap),(6,.int .i64 ((i:Nat):Int)),(7,.pointer (some pz1)),(8,.slice (ra (ps.getD i 0)) cc (rc (ps.getD i 0))),(9,.int .i64 ((cc:Nat):Int)),(10,.int .i64 ((c:Nat):Int))]) (fun⟨wr,c,Y⟩=>wr) (fun⟨wr,c,Y⟩=>(UpdO (ra (ps.getD i 0)) w wr)∧(c≤cc)∧(Own wr lb 22 1 RA n rcap (ps.map (rwv ra rc cc)))∧(Rcs 68719476736 lb n cc ra rc wr Y)∧(∀a b,a<n→b<cc→Y (ps.getD a 0) b=if a=i∧b<c then-Z (ps.getD i 0) b else Z (ps.getD a 0) b)) (fun⟨wr,c,Y⟩=>cc-c)
  (⟨w,0,Z⟩:World×Nat×Mx) ⟨(UO.refl (ra (ps.getD i 0)) w),(by omega),hR,hC,(fun a b _ _=>by rw [if_neg (by omega)])⟩ rfl ⟨rfl,rfl,rfl,rfl,rfl,rfl,rfl,rfl,trivial⟩ ?_
 rintro⟨wr,c,Y⟩ ⟨hw1,hi_c,o_RAwr,rc_wr,hY⟩
 refine cw_re [(0,.int .i64 ((i:Nat):Int)),(1,.pointer (some ⟨gr,0,none⟩)),(5,.slice RA n rcap),(6,.int .i64 ((i:Nat):Int)),(7,.pointer (some pz1)),(8,.slice (ra (ps.getD i 0)) cc (rc (ps.getD i 0))),(9,.int .i64 ((cc:Nat):Int)),(10,.int .i64 ((c:Nat):Int))] wr rfl ⟨rfl,rfl,rfl,rfl,rfl,rfl,rfl,rfl,trivial⟩ (cw_seq ?_)
 by_cases hcn:c<cc
 · 
  refine cw_region (wl_cmp rfl rfl rfl true (cb_lt_t (a:=c) (b:=cc) rfl rfl (by omega)) (by decide) (ne_ (cw_seq (cw_true rfl (cw_skip (eo_then (cw_seq (cw_block (sr (mv 1 rfl ?_))))))))))
  obtain⟨pz2,sz2,Bz2,nz2,cz2,hpz2,ldz2,hKz2,zz2⟩:=(rc_wr).at (hPer.lt i (by omega)) (show c<cc by omega)
  refine wl_idx rfl rfl rfl elemI aggInt.size c rfl (by omega) pz2 hpz2 (by decide) (wl_load rfl rfl (ldz2 _ (Ext.refl _) _ _ aggInt) (by decide) (wl_alloc rfl (z:= .agg #[F0,S0]) (vs:= [F0,S0]) (fun _=>by kernel_rfl) rfl (by decide) fun g3 v4 nb=>?_))
  have hb6:=nb.bk
  have ge7:w.heap.size≤g3:=by rw [←nb.at_];exact hw1.size
  have q8:gr<g3:=by rw [←nb.at_];exact (hgr.updO hw1 (hnr (ps.getD i 0) (hPer.lt i hi2))).lt
  have ne9:∀p:Addr,RA=some p→p.block≠g3:=fun p hp=>by have:=((o_RAwr).block p hp).2;have:=nb.at_;omega
  have nr10:∀r,r<n→∀p:Addr,ra r=some p→p.block≠g3:=fun r hr p hp=>by have:=((rc_wr).lt r hr p hp).2;have:=nb.at_;omega
  have e5:=nb.ext
  clear nb
  have hw2:UpdO (ra (ps.getD i 0)) w v4:=UO.ext hw1 e5
  refine mv 1 rfl (wl_stored rfl rfl rfl aggInt rfl hb6 (bq rfl) rfl [.bool sz2,.slice Bz2 nz2 cz2] rfl fun v11 hb13 u14 hs15=>?_)
  have hw3:UpdO (ra (ps.getD i 0)) w v11:=UO.upd hw2 u14 ge7
  refine ne_ ?_
  obtain⟨pz16,hpz16,hcz16⟩:=(((o_RAwr.ext e5).upd u14 ne9)).rowAt (i:=i) (by omega)
  have L17:ln (-(Y (ps.getD i 0) c))≤68719476736:=(by rw [ln_neg];exact (zz2.ln_le hKz2))
  obtain⟨pz19,sz19,Bz19,nz19,cz19,hpz19,ldz19,hKz19,zz19⟩:=(((rc_wr.ext e5).updT hb6 u14 nr10)).at (hPer.lt i (by omega)) (show c<cc by omega)
  refine cw_draw mix 8 [] [Is (.slice RA n rcap),Is (.int .i64 ((i:Nat):Int)),Is (.pointer (some pz16)),Is (.slice (ra (ps.getD i 0)) cc (rc (ps.getD i 0))),Is (.int .i64 ((c:Nat):Int)),Is (.agg #[.bool sz2,.slice Bz2 nz2 cz2]),ZR w.heap.size (-(Y (ps.getD i 0) c)),Is (.pointer (some pz19))] [[],[],[0,1],[2],[],[],[5],[3,4]] [[],[],[0,1],[0,1,2],[],[],[5],[0,1,2,3,4,5,6],[0,1,2,3,4,5,6,7]] rfl
   (obs_cons rfl rfl (hob rfl rfl ?_) (obs_cons rfl rfl (hob rfl rfl ?_) (obs_cons rfl rfl (hob rfl rfl ?_) (obs_cons rfl rfl (hob rfl rfl ?_) (obs_cons rfl rfl (hob rfl rfl ?_) (obs_cons rfl rfl (hob rfl rfl ?_) (obs_cons rfl rfl (hob rfl rfl ?_) (obs_cons rfl rfl (hob rfl rfl ?_) obs_nil)))))))) ?_
  · 
   intro v20 e21
   have hw4:UpdO (ra (ps.getD i 0)) w v20:=UO.ext hw3 e21
   refine deps_nil (wl_load rfl rfl (load_cell cellRows ((((hgr.updO hw1 (hnr (ps.getD i 0) (hPer.lt i hi2))).ext e5).updN u14 (by omega)).ext e21) rfl) (by decide) ?_)
   exact pi_done rfl (Ext.refl _) rfl
  · 
   intro v22 e23
   have hw4:UpdO (ra (ps.getD i 0)) w v22:=UO.ext hw3 e23
   refine deps_nil (mv 1 rfl ?_)
   exact pi_done rfl (Ext.refl _) rfl
  · 
   intro v24 e25
   have hw4:UpdO (ra (ps.getD i 0)) w v24:=UO.ext hw3 e25
   refine dk rfl rfl (dk rfl rfl (deps_nil (wl_idx rfl rfl rfl unRows szInts i rfl (by omega) pz16 hpz16 (by decide) ?_)))
   exact pi_done rfl (Ext.refl _) rfl
  · 
   intro v36 e37
   have hw4:UpdO (ra (ps.getD i 0)) w v36:=UO.ext hw3 e37
   refine dk rfl rfl (deps_nil (wl_load rfl rfl (load_cell1 cellInts (e37.cell hcz16)) (by decide) ?_))
   exact pi_done rfl (Ext.refl _) rfl
  · 
   intro v43 e44
   have hw4:UpdO (ra (ps.getD i 0)) w v43:=UO.ext hw3 e44
   refine deps_nil (mv 1 rfl ?_)
   exact pi_done rfl (Ext.refl _) rfl
  · 
   intro v45 e46
   have hw4:UpdO (ra (ps.getD i 0)) w v45:=UO.ext hw3 e46
   refine deps_nil (lo aggInt (hb13.ext e46) [.bool sz2,.slice Bz2 nz2 cz2] rfl rfl rfl ?_)
   exact pi_done rfl (Ext.refl _) rfl
  · 
   intro v47 e48
   have hw4:UpdO (ra (ps.getD i 0)) w v47:=UO.ext hw3 e48
   refine dk rfl rfl (deps_nil ?_)
   have L54:ln (-(Y (ps.getD i 0) c))≤68719476736:=(by rw [ln_neg];exact (zz2.ln_le hKz2))
   refine wl_call rfl rfl (vs:= [.agg #[.bool sz2,.slice Bz2 nz2 cz2]]) (by kernel_rfl) (by decide) (g_zint_Neg hw4.size (((zz2.ext e5).updT hb6 u14).ext e48).zi (zz2.le (Nat.le_trans (zz2.ln_le hKz2) (by decide)))) ?_
   rintro _ v55 ⟨xr57,rfl,r57,e56⟩
   refine ret_intro ?_
   have hw5:UpdO (ra (ps.getD i 0)) w v55:=UO.ext hw4 e56
   obtain⟨s58,A58,n58,c58,rfl,z58⟩:=r57
   exact pi_done rfl e56 ⟨_,_,_,_,rfl,z58⟩
  · 
   intro v59 e60
   have hw4:UpdO (ra (ps.getD i 0)) w v59:=UO.ext hw3 e60
   refine dk rfl rfl (dk rfl rfl (deps_nil (wl_idx rfl rfl rfl elemI aggInt.size c rfl (by omega) pz19 hpz19 (by decide) ?_)))
   exact pi_done rfl (Ext.refl _) rfl
  · 
   intro v71 e72
   have hw4:UpdO (ra (ps.getD i 0)) w v71:=UO.ext hw3 e72
   refine dk rfl rfl (dk rfl rfl (dk rfl rfl (dk rfl rfl (dk rfl rfl (dk rfl rfl (deps_cons rfl rfl fun x103 y104 h105 e106 f107=>?_))))))
   obtain⟨s108,A108,n108,c108,rfl,z108⟩:=h105
   have z108:=z108.ext f107
   refine dk rfl rfl (deps_nil ?_)
   have rt114:=(((rc_wr.ext e5).updT hb6 u14 nr10).ext e72)
   obtain⟨us116,own117⟩:=rt114.own (hPer.lt i (by omega))
   refine wl_setR (e:=⟨s108,A108,n108,c108⟩) (z:= -(Y (ps.getD i 0) c)) rfl rfl rfl rt114 (hPer.lt i (by omega)) (show c<cc by omega) hpz19 (Zr.mono z108 (Nat.zero_le _)) (z108.le (lx_ L17 rfl)) fun v115 rc118 uo119=>?_
   have hw5:UpdO (ra (ps.getD i 0)) w v115:=UO.trans hw4 uo119
   refine wl_nil (eo_np (eo_block_normal (eo_then (cw_region (wl_ar rfl rfl rfl ((c+1:Nat):Int) (ai_add (a:=c) (b:=1) rfl rfl (by omega)) (by decide) (mv 1 rfl (wl_nil (eo_round (⟨v115,c+1,ent Y (ps.getD i 0) c (-(Y (ps.getD i 0) c))⟩:World×Nat×Mx) ⟨hw5,(by omega),((((o_RAwr.ext e5).upd u14 ne9).ext e72).updO uo119 (fun p q hp hq e=>hA.Rr (ps.getD i 0) (hPer.lt i (by omega)) q p hq hp e.symm)),rc118,(ent_row hPer hi2 hY (by rw [hY i c hi2 hcn,if_neg (by omega)]))⟩ (show cc-(c+1)<cc-c by omega) rfl ⟨rfl,rfl,rfl,rfl,rfl,rfl,rfl,rfl,trivial⟩))))))))
 · 
  refine cw_region (wl_cmp rfl rfl rfl false (cb_lt_f (a:=c) (b:=cc) rfl rfl (by omega)) (by decide) (ne_ (cw_seq (cw_false rfl (cw_exit (eo_thenX (eo_loopX (eo_block_here (eo_end [] rfl trivial ?_)))))))))
  exact⟨rfl,⟨Y,rc_wr,(show c=cc by omega)▸hY⟩,hw1⟩
set_option maxHeartbeats 4000000 in
theorem g_lk_add {w:World}{lb n cc gr:Nat}{RA:Option Addr}{rcap:Nat}{ra:Nat→Option Addr}{rc:Nat→Nat}{ps:List Nat}{Z:Mx}(hlb:lb≤w.heap.size) (_hA:Ap2 n RA ra) (hR:Own w lb 22 1 RA n rcap (ps.map (rwv ra rc cc))) (hC:Rcs 68719476736 lb n cc ra rc w Z) (hcc:cc≤64) (hPer:Per n ps) (hgr:Bk w gr 54 [.slice RA n rcap]) (_hnr:∀r,r<n→∀p:Addr,ra r=some p→p.block≠gr) (_hnR:∀p:Addr,RA=some p→p.block≠gr){i j:Nat}(hi2:i<n) (hj2:j<n) (hij:i≠j){x:Int}{b_k:Nat}{sk:Bool}{Ak:Option Addr}{nk ck:Nat}(hk:Zr w b_k sk Ak nk ck x) (Lk:ln x≤68719476736) (hL:∀b,b<cc→ln (x*Z (ps.getD j 0) b+Z (ps.getD i 0) b)≤68719476736):
    Calls Tryz.prog 85 #[.int .i64 ((i:Nat):Int),.int .i64 ((j:Nat):Int),.agg #[.bool sk,.slice Ak nk ck],.pointer (some ⟨gr,0,none⟩)] w (fun e w'=>e= .returned (.tuple #[])∧(∃zs,Lz none 68719476736 0 w' lb (ra (ps.getD i 0)) cc (rc (ps.getD i 0)) zs∧∀b,b<cc→zs.getD b 0=x*Z (ps.getD j 0) b+Z (ps.getD i 0) b)∧UpdO (ra (ps.getD i 0)) w w'):=by
 have hcap:=hR.rv.le
 refine sx_enter Tryz.func85 rfl (n:=17) rfl (bq rfl) (args:= [.int .i64 ((i:Nat):Int),.int .i64 ((j:Nat):Int),.agg #[.bool sk,.slice Ak nk ck],.pointer (some ⟨gr,0,none⟩)]) ?_
 have hlt_gr:=hgr.lt
 refine cw_keep [(0,.int .i64 ((i:Nat):Int)),(1,.int .i64 ((j:Nat):Int)),(2,.agg #[.bool sk,.slice Ak nk ck]),(3,.pointer (some ⟨gr,0,none⟩))] ⟨rfl,rfl,rfl,rfl,trivial⟩ (sr (wl_box rfl rfl (vs:= [.bool sk,.slice Ak nk ck]) rfl (by decide) fun g1 v2 nb=>?_))
 have hb4:=nb.bk
 have ge5:w.heap.size≤g1:=by rw [←nb.at_];exact (UO.refl (ra (ps.getD i 0)) w).size
 have q6:gr<g1:=by rw [←nb.at_];exact hgr.lt
 have ne7:∀p:Addr,RA=some p→p.block≠g1:=fun p hp=>by have:=((hR).block p hp).2;have:=nb.at_;omega
 have nr8:∀r,r<n→∀p:Addr,ra r=some p→p.block≠g1:=fun r hr p hp=>by have:=((hC).lt r hr p hp).2;have:=nb.at_;omega
 have e3:=nb.ext
 clear nb
 have hw1:UpdO (ra (ps.getD i 0)) w v2:=UO.ext (UO.refl (ra (ps.getD i 0)) w) e3
 refine ne_ ?_
 obtain⟨pz9,hpz9,hcz9⟩:=((hR.ext e3)).rowAt (i:=i) (by omega)
 obtain⟨pz10,hpz10,hcz10⟩:=((hR.ext e3)).rowAt (i:=j) (by omega)
 refine cw_draw mix 9 [] [Is (.slice RA n rcap),Is (.int .i64 ((i:Nat):Int)),Is (.pointer (some pz9)),Is (.slice (ra (ps.getD i 0)) cc (rc (ps.getD i 0))),Is (.slice RA n rcap),Is (.int .i64 ((j:Nat):Int)),Is (.pointer (some pz10)),Is (.slice (ra (ps.getD j 0)) cc (rc (ps.getD j 0))),Is (.agg #[.bool sk,.slice Ak nk ck])] [[],[],[0,1],[2],[],[],[4,5],[6],[]] [[],[],[0,1],[0,1,2],[],[],[4,5],[4,5,6],[],[0,1,2,3,4,5,6,7,8]] rfl
  (obs_cons rfl rfl (hob rfl rfl ?_) (obs_cons rfl rfl (hob rfl rfl ?_) (obs_cons rfl rfl (hob rfl rfl ?_) (obs_cons rfl rfl (hob rfl rfl ?_) (obs_cons rfl rfl (hob rfl rfl ?_) (obs_cons rfl rfl (hob rfl rfl ?_) (obs_cons rfl rfl (hob rfl rfl ?_) (obs_cons rfl rfl (hob rfl rfl ?_) (obs_cons rfl rfl (hob rfl rfl ?_) obs_nil))))))))) ?_
 · 
  intro v11 e12
  have hw2:UpdO (ra (ps.getD i 0)) w v11:=UO.ext hw1 e12
  refine deps_nil (wl_load rfl rfl (load_cell cellRows (hgr.ext (e3.trans e12)) rfl) (by decide) ?_)
  exact pi_done rfl (Ext.refl _) rfl
 · 
  intro v13 e14
  have hw2:UpdO (ra (ps.getD i 0)) w v13:=UO.ext hw1 e14
  refine deps_nil (mv 1 rfl ?_)
  exact pi_done rfl (Ext.refl _) rfl
 · 
  intro v15 e16
  have hw2:UpdO (ra (ps.getD i 0)) w v15:=UO.ext hw1 e16
  refine dk rfl rfl (dk rfl rfl (deps_nil (wl_idx rfl rfl rfl unRows szInts i rfl (by omega) pz9 hpz9 (by decide) ?_)))
  exact pi_done rfl (Ext.refl _) rfl
 · 
  intro v27 e28
  have hw2:UpdO (ra (ps.getD i 0)) w v27:=UO.ext hw1 e28
  refine dk rfl rfl (deps_nil (wl_load rfl rfl (load_cell1 cellInts (e28.cell hcz9)) (by decide) ?_))
  exact pi_done rfl (Ext.refl _) rfl
 · 
  intro v34 e35
  have hw2:UpdO (ra (ps.getD i 0)) w v34:=UO.ext hw1 e35
  refine deps_nil (wl_load rfl rfl (load_cell cellRows (hgr.ext (e3.trans e35)) rfl) (by decide) ?_)
  exact pi_done rfl (Ext.refl _) rfl
 · 
  intro v36 e37
  have hw2:UpdO (ra (ps.getD i 0)) w v36:=UO.ext hw1 e37
  refine deps_nil (mv 1 rfl ?_)
  exact pi_done rfl (Ext.refl _) rfl
 · 
  intro v38 e39
  have hw2:UpdO (ra (ps.getD i 0)) w v38:=UO.ext hw1 e39
  refine dk rfl rfl (dk rfl rfl (deps_nil (wl_idx rfl rfl rfl unRows szInts j rfl (by omega) pz10 hpz10 (by decide) ?_)))
  exact pi_done rfl (Ext.refl _) rfl
 · 
  intro v50 e51
  have hw2:UpdO (ra (ps.getD i 0)) w v50:=UO.ext hw1 e51
  refine dk rfl rfl (deps_nil (wl_load rfl rfl (load_cell1 cellInts (e51.cell hcz10)) (by decide) ?_))
  exact pi_done rfl (Ext.refl _) rfl
 · 
  intro v57 e58
  have hw2:UpdO (ra (ps.getD i 0)) w v57:=UO.ext hw1 e58
  refine deps_nil (lo aggInt (hb4.ext e58) [.bool sk,.slice Ak nk ck] rfl rfl rfl ?_)
  exact pi_done rfl (Ext.refl _) rfl
 · 
  intro v59 e60
  have hw2:UpdO (ra (ps.getD i 0)) w v59:=UO.ext hw1 e60
  refine dk rfl rfl (dk rfl rfl (dk rfl rfl (dk rfl rfl (dk rfl rfl (dk rfl rfl (dk rfl rfl (dk rfl rfl (dk rfl rfl (deps_nil ?_)))))))))
  obtain⟨xi,hlxi,hzxi⟩:=((hC.ext (e3.trans e60))).row (ps.getD i 0) (hPer.lt i (by omega))
  obtain⟨xj,hlxj,hzxj⟩:=((hC.ext (e3.trans e60))).row (ps.getD j 0) (hPer.lt j (by omega))
  refine wl_call rfl rfl (vs:= [.slice (ra (ps.getD i 0)) cc (rc (ps.getD i 0)),.slice (ra (ps.getD j 0)) cc (rc (ps.getD j 0)),.agg #[.bool sk,.slice Ak nk ck]]) (by kernel_rfl) (by decide) (g_lad_add0 hlxi (Nat.le_trans (Nat.le_trans hlb e3.size) e60.size) hlxj (Nat.le_trans (Nat.le_trans hlb e3.size) e60.size) (fun p q hp hq=>hC.dis _ _ (hPer.lt i hi2) (hPer.lt j hj2) (fun e=>hij (hPer.inj i j hi2 hj2 e)) p q hp hq) (by omega) (hk.ext (e3.trans e60)) Lk (fun b hb=>by rw [hzxi b hb,hzxj b hb];exact hL b hb)) ?_
  rintro _ v106 ⟨ys107,rfl,lz108,hy109,uo110⟩
  refine ret_intro ?_
  have hw3:UpdO (ra (ps.getD i 0)) w v106:=UO.trans hw2 uo110
  refine wl_nil (eo_np (eo_end [] rfl trivial ?_))
  exact⟨rfl,⟨ys107,lz108,fun b hb=>by rw [hy109 b hb,hzxi b hb,hzxj b hb]⟩,hw3⟩
set_option maxHeartbeats 4000000 in
theorem g_lk_mix {w:World}{lb n cc gr:Nat}{RA:Option Addr}{rcap:Nat}{ra:Nat→Option Addr}{rc:Nat→Nat}{ps:List Nat}{Z:Mx}(hlb:lb≤w.heap.size) (_hA:Ap2 n RA ra) (hR:Own w lb 22 1 RA n rcap (ps.map (rwv ra rc cc))) (hC:Rcs 68719476736 lb n cc ra rc w Z) (hcc:cc≤64) (hPer:Per n ps) (hgr:Bk w gr 54 [.slice RA n rcap]) (_hnr:∀r,r<n→∀p:Addr,ra r=some p→p.block≠gr) (_hnR:∀p:Addr,RA=some p→p.block≠gr){i j:Nat}(hi2:i<n) (hj2:j<n) (hij:i≠j){x1 x2 x3 x4:Int}{b_k1:Nat}{sk1:Bool}{Ak1:Option Addr}{nk1 ck1:Nat}(hk1:Zr w b_k1 sk1 Ak1 nk1 ck1 x1) (Lk1:ln x1≤68719476736){b_k2:Nat}{sk2:Bool}{Ak2:Option Addr}{nk2 ck2:Nat}(hk2:Zr w b_k2 sk2 Ak2 nk2 ck2 x2) (Lk2:ln x2≤68719476736){b_k3:Nat}{sk3:Bool}{Ak3:Option Addr}{nk3 ck3:Nat}(hk3:Zr w b_k3 sk3 Ak3 nk3 ck3 x3) (Lk3:ln x3≤68719476736){b_k4:Nat}{sk4:Bool}{Ak4:Option Addr}{nk4 ck4:Nat}(hk4:Zr w b_k4 sk4 Ak4 nk4 ck4 x4) (Lk4:ln x4≤68719476736) (hq2:∀b,b<cc→ln (x2*Z (ps.getD j 0) b)≤68719476736) (hq4:∀b,b<cc→ln (x4*Z (ps.getD j 0) b)≤68719476736) (hb1:∀b,b<cc→ln (x1*Z (ps.getD i 0) b+x2*Z (ps.getD j 0) b)≤68719476736) (hb2:∀b,b<cc→ln (x3*Z (ps.getD i 0) b+x4*Z (ps.getD j 0) b)≤68719476736):
    Calls Tryz.prog 87 #[.int .i64 ((i:Nat):Int),.int .i64 ((j:Nat):Int),.agg #[.bool sk1,.slice Ak1 nk1 ck1,.bool sk2,.slice Ak2 nk2 ck2,.bool sk3,.slice Ak3 nk3 ck3,.bool sk4,.slice Ak4 nk4 ck4],.pointer (some ⟨gr,0,none⟩)] w (fun e w'=>e= .returned (.tuple #[])∧(∃us ts,Lz none 68719476736 0 w' lb (ra (ps.getD i 0)) cc (rc (ps.getD i 0)) us∧Lz none 68719476736 0 w' lb (ra (ps.getD j 0)) cc (rc (ps.getD j 0)) ts∧(∀b,b<cc→us.getD b 0=x1*Z (ps.getD i 0) b+x2*Z (ps.getD j 0) b)∧∀b,b<cc→ts.getD b 0=x3*Z (ps.getD i 0) b+x4*Z (ps.getD j 0) b)∧UpS (S2 (ra (ps.getD i 0)) (ra (ps.getD j 0))) w w'):=by
 have hcap:=hR.rv.le
 refine sx_enter Tryz.func87 rfl (n:=17) rfl (bq rfl) (args:= [.int .i64 ((i:Nat):Int),.int .i64 ((j:Nat):Int),.agg #[.bool sk1,.slice Ak1 nk1 ck1,.bool sk2,.slice Ak2 nk2 ck2,.bool sk3,.slice Ak3 nk3 ck3,.bool sk4,.slice Ak4 nk4 ck4],.pointer (some ⟨gr,0,none⟩)]) ?_
 have hlt_gr:=hgr.lt
 refine cw_keep [(0,.int .i64 ((i:Nat):Int)),(1,.int .i64 ((j:Nat):Int)),(2,.agg #[.bool sk1,.slice Ak1 nk1 ck1,.bool sk2,.slice Ak2 nk2 ck2,.bool sk3,.slice Ak3 nk3 ck3,.bool sk4,.slice Ak4 nk4 ck4]),(3,.pointer (some ⟨gr,0,none⟩))] ⟨rfl,rfl,rfl,rfl,trivial⟩ (sr (wl_box rfl rfl (vs:= [.bool sk1,.slice Ak1 nk1 ck1,.bool sk2,.slice Ak2 nk2 ck2,.bool sk3,.slice Ak3 nk3 ck3,.bool sk4,.slice Ak4 nk4 ck4]) rfl (by decide) fun g1 v2 nb=>?_))
 have hb4:=nb.bk
 have ge5:w.heap.size≤g1:=by rw [←nb.at_];exact (UpS.refl (S2 (ra (ps.getD i 0)) (ra (ps.getD j 0))) w).size
 have q6:gr<g1:=by rw [←nb.at_];exact hgr.lt
 have ne7:∀p:Addr,RA=some p→p.block≠g1:=fun p hp=>by have:=((hR).block p hp).2;have:=nb.at_;omega
 have nr8:∀r,r<n→∀p:Addr,ra r=some p→p.block≠g1:=fun r hr p hp=>by have:=((hC).lt r hr p hp).2;have:=nb.at_;omega
 have e3:=nb.ext
 clear nb
 have hw1:UpS (S2 (ra (ps.getD i 0)) (ra (ps.getD j 0))) w v2:=(UpS.refl (S2 (ra (ps.getD i 0)) (ra (ps.getD j 0))) w).ext e3
 refine ne_ ?_
 obtain⟨pz9,hpz9,hcz9⟩:=((hR.ext e3)).rowAt (i:=i) (by omega)
 obtain⟨pz10,hpz10,hcz10⟩:=((hR.ext e3)).rowAt (i:=j) (by omega)
 refine cw_draw mix 9 [] [Is (.slice RA n rcap),Is (.int .i64 ((i:Nat):Int)),Is (.pointer (some pz9)),Is (.slice (ra (ps.getD i 0)) cc (rc (ps.getD i 0))),Is (.slice RA n rcap),Is (.int .i64 ((j:Nat):Int)),Is (.pointer (some pz10)),Is (.slice (ra (ps.getD j 0)) cc (rc (ps.getD j 0))),Is (.agg #[.bool sk1,.slice Ak1 nk1 ck1,.bool sk2,.slice Ak2 nk2 ck2,.bool sk3,.slice Ak3 nk3 ck3,.bool sk4,.slice Ak4 nk4 ck4])] [[],[],[0,1],[2],[],[],[4,5],[6],[]] [[],[],[0,1],[0,1,2],[],[],[4,5],[4,5,6],[],[0,1,2,3,4,5,6,7,8]] rfl
  (obs_cons rfl rfl (hob rfl rfl ?_) (obs_cons rfl rfl (hob rfl rfl ?_) (obs_cons rfl rfl (hob rfl rfl ?_) (obs_cons rfl rfl (hob rfl rfl ?_) (obs_cons rfl rfl (hob rfl rfl ?_) (obs_cons rfl rfl (hob rfl rfl ?_) (obs_cons rfl rfl (hob rfl rfl ?_) (obs_cons rfl rfl (hob rfl rfl ?_) (obs_cons rfl rfl (hob rfl rfl ?_) obs_nil))))))))) ?_
 · 
  intro v11 e12
  have hw2:UpS (S2 (ra (ps.getD i 0)) (ra (ps.getD j 0))) w v11:=hw1.ext e12
  refine deps_nil (wl_load rfl rfl (load_cell cellRows (hgr.ext (e3.trans e12)) rfl) (by decide) ?_)
  exact pi_done rfl (Ext.refl _) rfl
 · 
  intro v13 e14
  have hw2:UpS (S2 (ra (ps.getD i 0)) (ra (ps.getD j 0))) w v13:=hw1.ext e14
  refine deps_nil (mv 1 rfl ?_)
  exact pi_done rfl (Ext.refl _) rfl
 · 
  intro v15 e16
  have hw2:UpS (S2 (ra (ps.getD i 0)) (ra (ps.getD j 0))) w v15:=hw1.ext e16
  refine dk rfl rfl (dk rfl rfl (deps_nil (wl_idx rfl rfl rfl unRows szInts i rfl (by omega) pz9 hpz9 (by decide) ?_)))
  exact pi_done rfl (Ext.refl _) rfl
 · 
  intro v27 e28
  have hw2:UpS (S2 (ra (ps.getD i 0)) (ra (ps.getD j 0))) w v27:=hw1.ext e28
  refine dk rfl rfl (deps_nil (wl_load rfl rfl (load_cell1 cellInts (e28.cell hcz9)) (by decide) ?_))
  exact pi_done rfl (Ext.refl _) rfl
 · 
  intro v34 e35
  have hw2:UpS (S2 (ra (ps.getD i 0)) (ra (ps.getD j 0))) w v34:=hw1.ext e35
  refine deps_nil (wl_load rfl rfl (load_cell cellRows (hgr.ext (e3.trans e35)) rfl) (by decide) ?_)
  exact pi_done rfl (Ext.refl _) rfl
 · 
  intro v36 e37
  have hw2:UpS (S2 (ra (ps.getD i 0)) (ra (ps.getD j 0))) w v36:=hw1.ext e37
  refine deps_nil (mv 1 rfl ?_)
  exact pi_done rfl (Ext.refl _) rfl
 · 
  intro v38 e39
  have hw2:UpS (S2 (ra (ps.getD i 0)) (ra (ps.getD j 0))) w v38:=hw1.ext e39
  refine dk rfl rfl (dk rfl rfl (deps_nil (wl_idx rfl rfl rfl unRows szInts j rfl (by omega) pz10 hpz10 (by decide) ?_)))
  exact pi_done rfl (Ext.refl _) rfl
 · 
  intro v50 e51
  have hw2:UpS (S2 (ra (ps.getD i 0)) (ra (ps.getD j 0))) w v50:=hw1.ext e51
  refine dk rfl rfl (deps_nil (wl_load rfl rfl (load_cell1 cellInts (e51.cell hcz10)) (by decide) ?_))
  exact pi_done rfl (Ext.refl _) rfl
 · 
  intro v57 e58
  have hw2:UpS (S2 (ra (ps.getD i 0)) (ra (ps.getD j 0))) w v57:=hw1.ext e58
  refine deps_nil (lo agg22 (hb4.ext e58) [.bool sk1,.slice Ak1 nk1 ck1,.bool sk2,.slice Ak2 nk2 ck2,.bool sk3,.slice Ak3 nk3 ck3,.bool sk4,.slice Ak4 nk4 ck4] rfl rfl rfl ?_)
  exact pi_done rfl (Ext.refl _) rfl
 · 
  intro v59 e60
  have hw2:UpS (S2 (ra (ps.getD i 0)) (ra (ps.getD j 0))) w v59:=hw1.ext e60
  refine dk rfl rfl (dk rfl rfl (dk rfl rfl (dk rfl rfl (dk rfl rfl (dk rfl rfl (dk rfl rfl (dk rfl rfl (dk rfl rfl (deps_nil ?_)))))))))
  obtain⟨xi,hlxi,hzxi⟩:=((hC.ext (e3.trans e60))).row (ps.getD i 0) (hPer.lt i (by omega))
  obtain⟨xj,hlxj,hzxj⟩:=((hC.ext (e3.trans e60))).row (ps.getD j 0) (hPer.lt j (by omega))
  refine wl_call rfl rfl (vs:= [.slice (ra (ps.getD i 0)) cc (rc (ps.getD i 0)),.slice (ra (ps.getD j 0)) cc (rc (ps.getD j 0)),.agg #[.bool sk1,.slice Ak1 nk1 ck1,.bool sk2,.slice Ak2 nk2 ck2,.bool sk3,.slice Ak3 nk3 ck3,.bool sk4,.slice Ak4 nk4 ck4]]) (by kernel_rfl) (by decide) (g_lad_mix0 hlxi (Nat.le_trans (Nat.le_trans hlb e3.size) e60.size) hlxj (Nat.le_trans (Nat.le_trans hlb e3.size) e60.size) (fun p q hp hq=>hC.dis _ _ (hPer.lt i hi2) (hPer.lt j hj2) (fun e=>hij (hPer.inj i j hi2 hj2 e)) p q hp hq) (by omega) (hk1.ext (e3.trans e60)) Lk1 (hk2.ext (e3.trans e60)) Lk2 (hk3.ext (e3.trans e60)) Lk3 (hk4.ext (e3.trans e60)) Lk4 (fun b hb=>by rw [hzxj b hb];exact hq2 b hb) (fun b hb=>by rw [hzxj b hb];exact hq4 b hb) (fun b hb=>by rw [hzxi b hb,hzxj b hb];exact hb1 b hb) (fun b hb=>by rw [hzxi b hb,hzxj b hb];exact hb2 b hb)) ?_
  rintro _ v106 ⟨us107,ts108,rfl,lu109,lt110,hu111,ht112,up113⟩
  refine ret_intro ?_
  have hw3:UpS (S2 (ra (ps.getD i 0)) (ra (ps.getD j 0))) w v106:=hw2.trans up113
  refine wl_nil (eo_np (eo_end [] rfl trivial ?_))
  exact⟨rfl,⟨us107,ts108,lu109,lt110,fun b hb=>by rw [hu111 b hb,hzxi b hb,hzxj b hb],fun b hb=>by rw [ht112 b hb,hzxi b hb,hzxj b hb]⟩,hw3⟩
theorem Own.ofT {w:World}{base base':Nat}{t t':TypeId}{s s':Nat}{A B:Option Addr}{n cap n' cap':Nat}{vs us:List Value}(h:Own w base t s A n cap vs) (k:Own w base' t' s' B n' cap' us) (hne:t≠t'):
  ∀p q,A=some p→B=some q→p.block≠q.block:=by
 intro p q hp hq e
 rcases k with k | ⟨g',cs',ha',hb',hk',_⟩
 ·rw [k.1] at hq;cases hq
 ·rw [ha'] at hq;cases hq
  exact hne (h.type hp e hk')
structure LdP (lb N c gl gs gr:Nat) (RA:Option Addr) (rcap:Nat) (ra:Nat→Option Addr) (rc:Nat→Nat) (w:World) (ps:List Nat) (Y Z:Mx):Prop where
 bl:Bk w gl 99 [.slice RA N rcap,.slice (some ⟨gs,0,none⟩) 1 1]
 bs:Bk w gs 112 [fSw gr,fTn gr,fAd gr,fMx gr]
 br:Bk w gr 54 [.slice RA N rcap]
 ho:Own w lb 22 1 RA N rcap (ps.map (rwv ra rc c))
 hc:Rcs 68719476736 lb N c ra rc w Y
 per:Per N ps
 ent:∀i j,i<N→j<c→Z i j=Y (ps.getD i 0) j
 lb_:lb≤gl∧lb≤gs∧lb≤gr
section
variable {lb N c gl gs gr:Nat}{RA:Option Addr}{rcap:Nat}{ra:Nat→Option Addr}{rc:Nat→Nat}{w w':World}{ps:List Nat}{Y Z V:Mx}
theorem Ldr.op (h:Ldr lb N c gl gs gr RA rcap ra rc w Z):∃ps Y,LdP lb N c gl gs gr RA rcap ra rc w ps Y Z:=by
 obtain⟨ps,Y,ho,hc,hp,hz⟩:=h.ex
 exact⟨ps,Y,h.bl,h.bs,h.br,ho,hc,hp,hz,h.lb_⟩
theorem LdP.ldr (h:LdP lb N c gl gs gr RA rcap ra rc w ps Y Z):Ldr lb N c gl gs gr RA rcap ra rc w Z:=⟨h.bl,h.bs,h.br,⟨ps,Y,h.ho,h.hc,h.per,h.ent⟩,h.lb_⟩
theorem LdP.ext (h:LdP lb N c gl gs gr RA rcap ra rc w ps Y Z) (e:Ext w w'):LdP lb N c gl gs gr RA rcap ra rc w' ps Y Z:=
 ⟨h.bl.ext e,h.bs.ext e,h.br.ext e,h.ho.ext e,h.hc.ext e,h.per,h.ent,h.lb_⟩
theorem LdP.updT {g:Nat}{T:TypeId}{us:List Value}(h:LdP lb N c gl gs gr RA rcap ra rc w ps Y Z) (hb:Bk w g T us) (x:Upd g w w') (hg:¬LS N gl gs gr RA ra g) (hT:45≠T:=by decide):LdP lb N c gl gs gr RA rcap ra rc w' ps Y Z:=by
 refine⟨h.bl.updN x (fun e=>hg (Or.inl e.symm)),h.bs.updN x (fun e=>hg (Or.inr (Or.inl e.symm))),h.br.updN x (fun e=>hg (Or.inr (Or.inr (Or.inl e.symm)))),h.ho.upd x (fun p hp e=>hg ?_),h.hc.updT hb x (fun r hr p hp e=>hg ?_) hT,h.per,h.ent,h.lb_⟩
 ·exact Or.inr (Or.inr (Or.inr (Or.inl ⟨p,hp,e⟩)))
 ·exact Or.inr (Or.inr (Or.inr (Or.inr ⟨r,hr,p,hp,e⟩)))
theorem LdP.ap2 (h:LdP lb N c gl gs gr RA rcap ra rc w ps Y Z):Ap2 N RA ra:=⟨fun r hr p q hp hq=>by
 obtain⟨us,hu⟩:=h.hc.own hr
 exact Own.ofT h.ho hu (by decide) p q hp hq⟩
theorem LdP.nr (h:LdP lb N c gl gs gr RA rcap ra rc w ps Y Z):∀r,r<N→∀p:Addr,ra r=some p→p.block≠gr:=fun r hr p hp e=>by
 obtain⟨us,hu⟩:=h.hc.own hr
 exact absurd (hu.type hp e h.br) (by decide)
theorem LdP.nR (h:LdP lb N c gl gs gr RA rcap ra rc w ps Y Z):∀p:Addr,RA=some p→p.block≠gr:=fun p hp e=>absurd (h.ho.type hp e h.br) (by decide)
theorem LdP.rowz (h:LdP lb N c gl gs gr RA rcap ra rc w ps Y Z){i:Nat}(hi:i<N):∃zs,Lz none 68719476736 0 w lb (ra (ps.getD i 0)) c (rc (ps.getD i 0)) zs∧∀j,j<c→zs.getD j 0=Z i j:=by
 obtain⟨zs,h1,h2⟩:=h.hc.row _ (h.per.lt i hi)
 exact⟨zs,h1,fun j hj=>(h2 j hj).trans (h.ent i j hi hj).symm⟩
theorem g_ld_swap (h:LdP lb N c gl gs gr RA rcap ra rc w ps Y Z) (hlb:lb≤w.heap.size) (hcc:c≤64){i j:Nat}(hi:i<N) (hj:j<N):
  Calls Tryz.prog 83 #[.int .i64 ((i:Nat):Int),.int .i64 ((j:Nat):Int),.pointer (some ⟨gr,0,none⟩)] w (fun e w'=>e= .returned (.tuple #[])∧Ldr lb N c gl gs gr RA rcap ra rc w' (swR i j Z)∧UpS (LS N gl gs gr RA ra) w w'):=by
 refine (g_lk_swap hlb h.ap2 h.ho h.hc hcc h.per h.br h.nr h.nR hi hj).mono ?_
 rintro e w' ⟨he,ho,uo⟩
 refine⟨he,h.ldr.rows (S:=fun k=>∃p,RA=some p∧p.block=k) (UpS.of_updO uo fun p hp=>⟨p,hp,rfl⟩) (fun k hk=>Or.inl hk) ⟨_,Y,ho,h.hc.updQ h.ho uo (fun r hr p q hp hq=>h.ap2.Rr r hr p q hp hq),h.per.swp hi hj,fun a b ha hb=>?_⟩⟩
 rw [swp_get h.per.len hi hj]
 unfold swR
 by_cases e1:a=i
 ·rw [if_pos e1]
  by_cases e2:a=j
  ·rw [if_pos e2,h.ent j b hj hb,←e1,←e2]
  ·rw [if_neg e2,if_pos e1,h.ent j b hj hb]
 ·rw [if_neg e1]
  by_cases e2:a=j
  ·rw [if_pos e2,if_pos e2,h.ent i b hi hb]
  ·rw [if_neg e2,if_neg e2,if_neg e1,h.ent a b ha hb]
theorem g_ld_turn (h:LdP lb N c gl gs gr RA rcap ra rc w ps Y Z) (hlb:lb≤w.heap.size) (hcc:c≤64){i:Nat}(hi:i<N):
  Calls Tryz.prog 84 #[.int .i64 ((i:Nat):Int),.pointer (some ⟨gr,0,none⟩)] w (fun e w'=>e= .returned (.tuple #[])∧Ldr lb N c gl gs gr RA rcap ra rc w' (tnR i Z)∧UpS (LS N gl gs gr RA ra) w w'):=by
 refine (g_lk_turn hlb h.ap2 h.ho h.hc hcc h.per h.br h.nr h.nR hi).mono ?_
 rintro e w' ⟨he,⟨X,hX,hx⟩,uo⟩
 obtain⟨us,hu⟩:=h.hc.own (h.per.lt i hi)
 refine⟨he,h.ldr.rows (S:=fun k=>∃p,ra (ps.getD i 0)=some p∧p.block=k) (UpS.of_updO uo fun p hp=>⟨p,hp,rfl⟩) (fun k hk=>Or.inr ⟨_,h.per.lt i hi,hk⟩) ⟨ps,X,h.ho.updO uo (fun p q hp hq e=>h.ap2.Rr _ (h.per.lt i hi) q p hq hp e.symm),hX,h.per,fun a b ha hb=>?_⟩⟩
 rw [hx a b ha hb]
 unfold tnR
 by_cases e1:a=i
 ·rw [if_pos e1,if_pos ⟨e1,hb⟩,h.ent i b hi hb]
 ·rw [if_neg e1,if_neg (fun q=>e1 q.1),h.ent a b ha hb]
theorem g_ld_add (h:LdP lb N c gl gs gr RA rcap ra rc w ps Y Z) (hlb:lb≤w.heap.size) (hcc:c≤64){i j:Nat}(hi:i<N) (hj:j<N) (hij:i≠j){x:Int}{b_k:Nat}{sk:Bool}{Ak:Option Addr}{nk ck:Nat}(hk:Zr w b_k sk Ak nk ck x) (Lk:ln x≤68719476736) (hL:∀b,b<c→ln (Z i b+x*Z j b)≤68719476736):
  Calls Tryz.prog 85 #[.int .i64 ((i:Nat):Int),.int .i64 ((j:Nat):Int),.agg #[.bool sk,.slice Ak nk ck],.pointer (some ⟨gr,0,none⟩)] w (fun e w'=>e= .returned (.tuple #[])∧Ldr lb N c gl gs gr RA rcap ra rc w' (adR i j x Z)∧UpS (LS N gl gs gr RA ra) w w'):=by
 refine (g_lk_add hlb h.ap2 h.ho h.hc hcc h.per h.br h.nr h.nR hi hj hij hk Lk (fun b hb=>by rw [←h.ent j b hj hb,←h.ent i b hi hb,Int.add_comm];exact hL b hb)).mono ?_
 rintro e w' ⟨he,⟨zs,hz,hx⟩,uo⟩
 refine⟨he,h.ldr.rows (S:=fun k=>∃p,ra (ps.getD i 0)=some p∧p.block=k) (UpS.of_updO uo fun p hp=>⟨p,hp,rfl⟩) (fun k hk=>Or.inr ⟨_,h.per.lt i hi,hk⟩) ⟨ps,_,h.ho.updO uo (fun p q hp hq e=>h.ap2.Rr _ (h.per.lt i hi) q p hq hp e.symm),h.hc.turn (h.per.lt i hi) uo hz,h.per,fun a b ha hb=>?_⟩⟩
 unfold adR
 by_cases e1:a=i
 ·rw [if_pos e1,e1,if_pos rfl,hx b hb,h.ent j b hj hb,h.ent i b hi hb,Int.add_comm]
 ·rw [if_neg e1,if_neg (fun q=>e1 (h.per.inj a i ha hi q)),h.ent a b ha hb]
theorem g_ld_mix (h:LdP lb N c gl gs gr RA rcap ra rc w ps Y Z) (hlb:lb≤w.heap.size) (hcc:c≤64){i j:Nat}(hi:i<N) (hj:j<N) (hij:i≠j){x1 x2 x3 x4:Int}{b_k1:Nat}{sk1:Bool}{Ak1:Option Addr}{nk1 ck1:Nat}(hk1:Zr w b_k1 sk1 Ak1 nk1 ck1 x1) (Lk1:ln x1≤68719476736){b_k2:Nat}{sk2:Bool}{Ak2:Option Addr}{nk2 ck2:Nat}(hk2:Zr w b_k2 sk2 Ak2 nk2 ck2 x2) (Lk2:ln x2≤68719476736){b_k3:Nat}{sk3:Bool}{Ak3:Option Addr}{nk3 ck3:Nat}(hk3:Zr w b_k3 sk3 Ak3 nk3 ck3 x3) (Lk3:ln x3≤68719476736){b_k4:Nat}{sk4:Bool}{Ak4:Option Addr}{nk4 ck4:Nat}(hk4:Zr w b_k4 sk4 Ak4 nk4 ck4 x4) (Lk4:ln x4≤68719476736)
  (hq2:∀b,b<c→ln (x2*Z j b)≤68719476736) (hq4:∀b,b<c→ln (x4*Z j b)≤68719476736) (hb1:∀b,b<c→ln (x1*Z i b+x2*Z j b)≤68719476736) (hb2:∀b,b<c→ln (x3*Z i b+x4*Z j b)≤68719476736):
  Calls Tryz.prog 87 #[.int .i64 ((i:Nat):Int),.int .i64 ((j:Nat):Int),.agg #[.bool sk1,.slice Ak1 nk1 ck1,.bool sk2,.slice Ak2 nk2 ck2,.bool sk3,.slice Ak3 nk3 ck3,.bool sk4,.slice Ak4 nk4 ck4],.pointer (some ⟨gr,0,none⟩)] w (fun e w'=>e= .returned (.tuple #[])∧Ldr lb N c gl gs gr RA rcap ra rc w' (mxR i j x1 x2 x3 x4 Z)∧UpS (LS N gl gs gr RA ra) w w'):=by
 refine (g_lk_mix hlb h.ap2 h.ho h.hc hcc h.per h.br h.nr h.nR hi hj hij hk1 Lk1 hk2 Lk2 hk3 Lk3 hk4 Lk4 (fun b hb=>by rw [←h.ent j b hj hb];exact hq2 b hb) (fun b hb=>by rw [←h.ent j b hj hb];exact hq4 b hb) (fun b hb=>by rw [←h.ent j b hj hb,←h.ent i b hi hb];exact hb1 b hb) (fun b hb=>by rw [←h.ent j b hj hb,←h.ent i b hi hb];exact hb2 b hb)).mono ?_
 rintro e w' ⟨he,⟨us,ts,hu,ht,hx,hy⟩,uS⟩
 have hpi:=h.per.lt i hi
 have hpj:=h.per.lt j hj
 have hne:ps.getD i 0≠ps.getD j 0:=fun q=>hij (h.per.inj i j hi hj q)
 refine⟨he,h.ldr.rows uS (fun k hk=>?_) ⟨ps,_,h.ho.upS uS (fun p hp hS=>?_),h.hc.turn2 hpi hpj hne uS hu ht,h.per,fun a b ha hb=>?_⟩⟩
 ·rcases hk with hk | hk
  ·exact Or.inr ⟨_,hpi,hk⟩
  ·exact Or.inr ⟨_,hpj,hk⟩
 ·rcases hS with⟨q,hq,e⟩ | ⟨q,hq,e⟩
  ·exact h.ap2.Rr _ hpi p q hp hq e.symm
  ·exact h.ap2.Rr _ hpj p q hp hq e.symm
 ·unfold mxR
  by_cases e1:a=i
  ·rw [if_pos e1,e1,if_pos rfl,hx b hb,h.ent j b hj hb,h.ent i b hi hb]
  ·rw [if_neg e1,if_neg (fun q=>e1 (h.per.inj a i ha hi q))]
   by_cases e2:a=j
   ·rw [if_pos e2,e2,if_pos rfl,hy b hb,h.ent j b hj hb,h.ent i b hi hb]
   ·rw [if_neg e2,if_neg (fun q=>e2 (h.per.inj a j ha hj q)),h.ent a b ha hb]
end
theorem cellSw:∀w,(isAgg 107).run Tryz.prog w= .ok false w:=fun _=>by kernel_rfl
theorem cellTn:∀w,(isAgg 108).run Tryz.prog w= .ok false w:=fun _=>by kernel_rfl
theorem cellAd:∀w,(isAgg 109).run Tryz.prog w= .ok false w:=fun _=>by kernel_rfl
theorem cellMx:∀w,(isAgg 110).run Tryz.prog w= .ok false w:=fun _=>by kernel_rfl
set_option maxHeartbeats 4000000 in
theorem g_ladM_swap {w:World}{lb n cc gl gs gr:Nat}{RA:Option Addr}{rcap:Nat}{ra:Nat→Option Addr}{rc:Nat→Nat}{Z:Mx}(hL:Ldr lb n cc gl gs gr RA rcap ra rc w Z) (hlb:lb≤w.heap.size) (hcc:cc≤64){i j:Nat}(hi2:i<n) (hj2:j<n):
    Calls Tryz.prog 68 #[.pointer (some ⟨gl,0,none⟩),.int .i64 ((i:Nat):Int),.int .i64 ((j:Nat):Int)] w (fun e w'=>e= .returned (.tuple #[])∧Ldr lb n cc gl gs gr RA rcap ra rc w' (swR i j Z)∧UpS (LS n gl gs gr RA ra) w w'):=by
 refine sx_enter Tryz.func68 rfl (n:=23) rfl (bq rfl) (args:= [.pointer (some ⟨gl,0,none⟩),.int .i64 ((i:Nat):Int),.int .i64 ((j:Nat):Int)]) ?_
 have hLS:∀k,LS n gl gs gr RA ra k→k<w.heap.size:=fun k hk=>(hL.lt hk).2
 obtain⟨ps1,Y1,hP1⟩:=(hL).op
 have hcap:=hP1.ho.rv.le
 refine cw_keep [(0,.pointer (some ⟨gl,0,none⟩)),(1,.int .i64 ((i:Nat):Int)),(2,.int .i64 ((j:Nat):Int))] ⟨rfl,rfl,rfl,trivial⟩ (sr (mv 1 rfl (pf gl 0 rfl (by kernel_rfl) (pf gl 1 rfl (by kernel_rfl) (wl_load rfl rfl (load_cell cellSides hP1.bl rfl) (by decide) (pu (v:= .int .i64 1) rfl (by kernel_rfl) (mv 1 rfl (ne_ (cw_block ?_)))))))))
 refine cw_loop (T:=World×Nat) (fun⟨wr,i0⟩=> [(0,.pointer (some ⟨gl,0,none⟩)),(1,.int .i64 ((i:Nat):Int)),(2,.int .i64 ((j:Nat):Int)),(8,.pointer (some ⟨gl,0,none⟩)),(9,.pointer (some ⟨gl,0,none⟩)),(10,.pointer (some ⟨gl,1,none⟩)),(11,.slice (some ⟨gs,0,none⟩) 1 1),(12,.int .i64 1),(13,.int .i64 ((i0:Nat):Int))]) (fun⟨wr,i0⟩=>wr) (fun⟨wr,i0⟩=>(UpS (LS n gl gs gr RA ra) w wr)∧(i0≤1)∧(Ldr lb n cc gl gs gr RA rcap ra rc wr (fun a b=>if i0=0 then Z a b else (swR i j Z) a b))) (fun⟨wr,i0⟩=>1-i0)
  (⟨w,0⟩:World×Nat) ⟨(UpS.refl (LS n gl gs gr RA ra) w),(by omega),(hP1.ldr.cong fun a b _ _=>if_pos rfl)⟩ rfl ⟨rfl,rfl,rfl,rfl,rfl,rfl,rfl,rfl,rfl,trivial⟩ ?_
 rintro⟨wr,i0⟩ ⟨hw1,hi_i0,hl_wr⟩
 refine cw_re [(0,.pointer (some ⟨gl,0,none⟩)),(1,.int .i64 ((i:Nat):Int)),(2,.int .i64 ((j:Nat):Int)),(8,.pointer (some ⟨gl,0,none⟩)),(9,.pointer (some ⟨gl,0,none⟩)),(10,.pointer (some ⟨gl,1,none⟩)),(11,.slice (some ⟨gs,0,none⟩) 1 1),(12,.int .i64 1),(13,.int .i64 ((i0:Nat):Int))] wr rfl ⟨rfl,rfl,rfl,rfl,rfl,rfl,rfl,rfl,rfl,trivial⟩ ?_
 obtain⟨ps2,Y2,hP2⟩:=(hl_wr).op
 refine cw_seq ?_
 by_cases hi1:i0<1
 · 
  have hi0:i0=0:=by omega
  have hZ2:∀a b,(fun a b=>if i0=0 then Z a b else (swR i j Z) a b) a b=Z a b:=fun a b=>by simp only [hi0,if_true]
  have hQ:=hP2.ldr.cong (Y:=Z) fun a b _ _=>(hZ2 a b).symm
  obtain⟨ps3,Y3,hP3⟩:=(hQ).op
  refine cw_region (wl_cmp rfl rfl rfl true (cb_lt_t (a:=i0) (b:=1) rfl rfl (by omega)) (by decide) (ne_ (cw_seq (cw_true rfl (cw_skip (eo_then (cw_seq (cw_block (sr (wl_idx rfl rfl rfl Tryz.underlying97 aggSide.size 0 (by omega) (by decide) ⟨gs,0,none⟩ rfl (by decide) (lo aggSide hP3.bs [.func (.func 83) #[] #[.pointer (some ⟨gr,0,none⟩)],.func (.func 84) #[] #[.pointer (some ⟨gr,0,none⟩)],.func (.func 85) #[] #[.pointer (some ⟨gr,0,none⟩)],.func (.func 87) #[] #[.pointer (some ⟨gr,0,none⟩)]] rfl rfl rfl (wl_alloc rfl (z:= .agg #[.nilFunc,.nilFunc,.nilFunc,.nilFunc]) (vs:= [.nilFunc,.nilFunc,.nilFunc,.nilFunc]) (fun _=>by kernel_rfl) rfl (by decide) fun g4 v5 nb=>?_))))))))))))
  have hb7:=nb.bk
  have ge8:w.heap.size≤g4:=by rw [←nb.at_];exact hw1.size
  have q9:gs<g4:=by rw [←nb.at_];exact hP3.bs.lt
  have e6:=nb.ext
  clear nb
  have hw2:UpS (LS n gl gs gr RA ra) w v5:=hw1.ext e6
  refine wl_stored rfl rfl rfl aggSide rfl hb7 (bq rfl) rfl [.func (.func 83) #[] #[.pointer (some ⟨gr,0,none⟩)],.func (.func 84) #[] #[.pointer (some ⟨gr,0,none⟩)],.func (.func 85) #[] #[.pointer (some ⟨gr,0,none⟩)],.func (.func 87) #[] #[.pointer (some ⟨gr,0,none⟩)]] rfl fun v10 hb12 u13 hs14=>?_
  have hw3:UpS (LS n gl gs gr RA ra) w v10:=hw2.upd u13 ge8
  refine ne_ (cw_region (pf g4 0 rfl (by kernel_rfl) (wl_load rfl rfl (load_cell cellSw hb12 rfl) (by decide) (mv 2 rfl (wl_callF [.int .i64 ((i:Nat):Int),.int .i64 ((j:Nat):Int)] rfl rfl rfl (enters_of Tryz.func83 (by kernel_rfl) rfl) (by decide) (g_ld_swap ((hP3.ext e6).updT hb7 u13 (fun q=>absurd (hLS _ q) (by have:=ge8;omega))) (Nat.le_trans hlb hw3.size) hcc hi2 hj2) ?_)))))
  rintro _ v15 ⟨rfl,hl16,us17⟩
  refine ret_intro ?_
  have no18:=((hP3.ext e6).updT hb7 u13 (fun q=>absurd (hLS _ q) (by have:=ge8;omega))).ldr.no64
  have hw4:UpS (LS n gl gs gr RA ra) w v15:=hw3.trans us17
  obtain⟨ps19,Y19,hP19⟩:=(hl16).op
  refine wl_nil (eo_block_normal (eo_then (cw_region (wl_ar rfl rfl rfl ((i0+1:Nat):Int) (ai_add (a:=i0) (b:=1) rfl rfl (by omega)) (by decide) (mv 1 rfl (wl_nil (eo_round (⟨v15,i0+1⟩:World×Nat) ⟨hw4,(by omega),(hP19.ldr.cong fun a b _ _=>if_neg (by omega))⟩ (show 1-(i0+1)<1-i0 by omega) rfl ⟨rfl,rfl,rfl,rfl,rfl,rfl,rfl,rfl,rfl,trivial⟩)))))))
 · 
  refine cw_region (wl_cmp rfl rfl rfl false (cb_lt_f (a:=i0) (b:=1) rfl rfl (by omega)) (by decide) (ne_ (cw_seq (cw_false rfl (cw_exit (eo_thenX (eo_loopX (eo_block_here (eo_end [] rfl trivial ?_)))))))))
  exact⟨rfl,hP2.ldr.cong (fun a b _ _=>by simp only [show i0≠0 by omega,if_false]),hw1⟩
set_option maxHeartbeats 4000000 in
theorem g_ladM_turn {w:World}{lb n cc gl gs gr:Nat}{RA:Option Addr}{rcap:Nat}{ra:Nat→Option Addr}{rc:Nat→Nat}{Z:Mx}(hL:Ldr lb n cc gl gs gr RA rcap ra rc w Z) (hlb:lb≤w.heap.size) (hcc:cc≤64){i:Nat}(hi2:i<n):
    Calls Tryz.prog 92 #[.pointer (some ⟨gl,0,none⟩),.int .i64 ((i:Nat):Int)] w (fun e w'=>e= .returned (.tuple #[])∧Ldr lb n cc gl gs gr RA rcap ra rc w' (tnR i Z)∧UpS (LS n gl gs gr RA ra) w w'):=by
 refine sx_enter Tryz.func92 rfl (n:=20) rfl (bq rfl) (args:= [.pointer (some ⟨gl,0,none⟩),.int .i64 ((i:Nat):Int)]) ?_
 have hLS:∀k,LS n gl gs gr RA ra k→k<w.heap.size:=fun k hk=>(hL.lt hk).2
 obtain⟨ps1,Y1,hP1⟩:=(hL).op
 have hcap:=hP1.ho.rv.le
 refine cw_keep [(0,.pointer (some ⟨gl,0,none⟩)),(1,.int .i64 ((i:Nat):Int))] ⟨rfl,rfl,trivial⟩ (sr (mv 1 rfl (pf gl 0 rfl (by kernel_rfl) (pf gl 1 rfl (by kernel_rfl) (wl_load rfl rfl (load_cell cellSides hP1.bl rfl) (by decide) (pu (v:= .int .i64 1) rfl (by kernel_rfl) (mv 1 rfl (ne_ (cw_block ?_)))))))))
 refine cw_loop (T:=World×Nat) (fun⟨wr,i0⟩=> [(0,.pointer (some ⟨gl,0,none⟩)),(1,.int .i64 ((i:Nat):Int)),(6,.pointer (some ⟨gl,0,none⟩)),(7,.pointer (some ⟨gl,0,none⟩)),(8,.pointer (some ⟨gl,1,none⟩)),(9,.slice (some ⟨gs,0,none⟩) 1 1),(10,.int .i64 1),(11,.int .i64 ((i0:Nat):Int))]) (fun⟨wr,i0⟩=>wr) (fun⟨wr,i0⟩=>(UpS (LS n gl gs gr RA ra) w wr)∧(i0≤1)∧(Ldr lb n cc gl gs gr RA rcap ra rc wr (fun a b=>if i0=0 then Z a b else (tnR i Z) a b))) (fun⟨wr,i0⟩=>1-i0)
  (⟨w,0⟩:World×Nat) ⟨(UpS.refl (LS n gl gs gr RA ra) w),(by omega),(hP1.ldr.cong fun a b _ _=>if_pos rfl)⟩ rfl ⟨rfl,rfl,rfl,rfl,rfl,rfl,rfl,rfl,trivial⟩ ?_
 rintro⟨wr,i0⟩ ⟨hw1,hi_i0,hl_wr⟩
 refine cw_re [(0,.pointer (some ⟨gl,0,none⟩)),(1,.int .i64 ((i:Nat):Int)),(6,.pointer (some ⟨gl,0,none⟩)),(7,.pointer (some ⟨gl,0,none⟩)),(8,.pointer (some ⟨gl,1,none⟩)),(9,.slice (some ⟨gs,0,none⟩) 1 1),(10,.int .i64 1),(11,.int .i64 ((i0:Nat):Int))] wr rfl ⟨rfl,rfl,rfl,rfl,rfl,rfl,rfl,rfl,trivial⟩ ?_
 obtain⟨ps2,Y2,hP2⟩:=(hl_wr).op
 refine cw_seq ?_
 by_cases hi1:i0<1
 · 
  have hi0:i0=0:=by omega
  have hZ2:∀a b,(fun a b=>if i0=0 then Z a b else (tnR i Z) a b) a b=Z a b:=fun a b=>by simp only [hi0,if_true]
  have hQ:=hP2.ldr.cong (Y:=Z) fun a b _ _=>(hZ2 a b).symm
  obtain⟨ps3,Y3,hP3⟩:=(hQ).op
  refine cw_region (wl_cmp rfl rfl rfl true (cb_lt_t (a:=i0) (b:=1) rfl rfl (by omega)) (by decide) (ne_ (cw_seq (cw_true rfl (cw_skip (eo_then (cw_seq (cw_block (sr (wl_idx rfl rfl rfl Tryz.underlying97 aggSide.size 0 (by omega) (by decide) ⟨gs,0,none⟩ rfl (by decide) (lo aggSide hP3.bs [.func (.func 83) #[] #[.pointer (some ⟨gr,0,none⟩)],.func (.func 84) #[] #[.pointer (some ⟨gr,0,none⟩)],.func (.func 85) #[] #[.pointer (some ⟨gr,0,none⟩)],.func (.func 87) #[] #[.pointer (some ⟨gr,0,none⟩)]] rfl rfl rfl (wl_alloc rfl (z:= .agg #[.nilFunc,.nilFunc,.nilFunc,.nilFunc]) (vs:= [.nilFunc,.nilFunc,.nilFunc,.nilFunc]) (fun _=>by kernel_rfl) rfl (by decide) fun g4 v5 nb=>?_))))))))))))
  have hb7:=nb.bk
  have ge8:w.heap.size≤g4:=by rw [←nb.at_];exact hw1.size
  have q9:gs<g4:=by rw [←nb.at_];exact hP3.bs.lt
  have e6:=nb.ext
  clear nb
  have hw2:UpS (LS n gl gs gr RA ra) w v5:=hw1.ext e6
  refine wl_stored rfl rfl rfl aggSide rfl hb7 (bq rfl) rfl [.func (.func 83) #[] #[.pointer (some ⟨gr,0,none⟩)],.func (.func 84) #[] #[.pointer (some ⟨gr,0,none⟩)],.func (.func 85) #[] #[.pointer (some ⟨gr,0,none⟩)],.func (.func 87) #[] #[.pointer (some ⟨gr,0,none⟩)]] rfl fun v10 hb12 u13 hs14=>?_
  have hw3:UpS (LS n gl gs gr RA ra) w v10:=hw2.upd u13 ge8
  refine ne_ (cw_region (pf g4 1 rfl (by kernel_rfl) (wl_load rfl rfl (load_cell cellTn hb12 rfl) (by decide) (mv 1 rfl (wl_callF [.int .i64 ((i:Nat):Int)] rfl rfl rfl (enters_of Tryz.func84 (by kernel_rfl) rfl) (by decide) (g_ld_turn ((hP3.ext e6).updT hb7 u13 (fun q=>absurd (hLS _ q) (by have:=ge8;omega))) (Nat.le_trans hlb hw3.size) hcc hi2) ?_)))))
  rintro _ v15 ⟨rfl,hl16,us17⟩
  refine ret_intro ?_
  have no18:=((hP3.ext e6).updT hb7 u13 (fun q=>absurd (hLS _ q) (by have:=ge8;omega))).ldr.no64
  have hw4:UpS (LS n gl gs gr RA ra) w v15:=hw3.trans us17
  obtain⟨ps19,Y19,hP19⟩:=(hl16).op
  refine wl_nil (eo_block_normal (eo_then (cw_region (wl_ar rfl rfl rfl ((i0+1:Nat):Int) (ai_add (a:=i0) (b:=1) rfl rfl (by omega)) (by decide) (mv 1 rfl (wl_nil (eo_round (⟨v15,i0+1⟩:World×Nat) ⟨hw4,(by omega),(hP19.ldr.cong fun a b _ _=>if_neg (by omega))⟩ (show 1-(i0+1)<1-i0 by omega) rfl ⟨rfl,rfl,rfl,rfl,rfl,rfl,rfl,rfl,trivial⟩)))))))
 · 
  refine cw_region (wl_cmp rfl rfl rfl false (cb_lt_f (a:=i0) (b:=1) rfl rfl (by omega)) (by decide) (ne_ (cw_seq (cw_false rfl (cw_exit (eo_thenX (eo_loopX (eo_block_here (eo_end [] rfl trivial ?_)))))))))
  exact⟨rfl,hP2.ldr.cong (fun a b _ _=>by simp only [show i0≠0 by omega,if_false]),hw1⟩
set_option maxHeartbeats 4000000 in
theorem g_ladM_add {w:World}{lb n cc gl gs gr:Nat}{RA:Option Addr}{rcap:Nat}{ra:Nat→Option Addr}{rc:Nat→Nat}{Z:Mx}(hL:Ldr lb n cc gl gs gr RA rcap ra rc w Z) (hlb:lb≤w.heap.size) (hcc:cc≤64){i j:Nat}(hi2:i<n) (hj2:j<n) (hij:i≠j){x:Int}{b_k:Nat}{sk:Bool}{Ak:Option Addr}{nk ck:Nat}(hk:Zr w b_k sk Ak nk ck x) (Lk:ln x≤68719476736) (hS:∀b,b<cc→ln (Z i b+x*Z j b)≤68719476736):
    Calls Tryz.prog 105 #[.pointer (some ⟨gl,0,none⟩),.int .i64 ((i:Nat):Int),.int .i64 ((j:Nat):Int),.agg #[.bool sk,.slice Ak nk ck]] w (fun e w'=>e= .returned (.tuple #[])∧Ldr lb n cc gl gs gr RA rcap ra rc w' (adR i j x Z)∧UpS (LS n gl gs gr RA ra) w w'):=by
 refine sx_enter Tryz.func105 rfl (n:=29) rfl (bq rfl) (args:= [.pointer (some ⟨gl,0,none⟩),.int .i64 ((i:Nat):Int),.int .i64 ((j:Nat):Int),.agg #[.bool sk,.slice Ak nk ck]]) ?_
 have hLS:∀k,LS n gl gs gr RA ra k→k<w.heap.size:=fun k hk=>(hL.lt hk).2
 obtain⟨ps1,Y1,hP1⟩:=(hL).op
 have hcap:=hP1.ho.rv.le
 refine cw_keep [(0,.pointer (some ⟨gl,0,none⟩)),(1,.int .i64 ((i:Nat):Int)),(2,.int .i64 ((j:Nat):Int)),(3,.agg #[.bool sk,.slice Ak nk ck])] ⟨rfl,rfl,rfl,rfl,trivial⟩ (sr (wl_box rfl rfl (vs:= [.bool sk,.slice Ak nk ck]) rfl (by decide) fun g2 v3 nb=>?_))
 have hb5:=nb.bk
 have ge6:w.heap.size≤g2:=by rw [←nb.at_];exact (UpS.refl (LS n gl gs gr RA ra) w).size
 have e4:=nb.ext
 clear nb
 have hw1:UpS (LS n gl gs gr RA ra) w v3:=(UpS.refl (LS n gl gs gr RA ra) w).ext e4
 refine ne_ (cw_seq (cw_seq ?_))
 by_cases hx0:x=0
 · 
  refine cw_region (lo aggInt hb5 [.bool sk,.slice Ak nk ck] rfl rfl rfl (wl_call rfl rfl (vs:= [.agg #[.bool sk,.slice Ak nk ck]]) (by kernel_rfl) (by decide) (g_zint_Sign (hk.ext e4).zi (hk.le (lx_ Lk rfl))) ?_))
  rintro _ v7 ⟨xr9,rfl,r9,e8⟩
  refine ret_intro ?_
  have hw2:UpS (LS n gl gs gr RA ra) w v7:=hw1.ext e8
  obtain rfl:=r9
  refine wl_cmp rfl rfl rfl true (scmp_eq_t hx0) (by decide) (ne_ (cw_true rfl (cw_ret (eo_thenR (eo_ret [] rfl trivial ?_)))))
  exact⟨rfl,(hP1.ext (e4.trans e8)).ldr.cong (fun a b _ _=>by rw [hx0,adR_0]),hw2⟩
 · 
  refine cw_region (lo aggInt hb5 [.bool sk,.slice Ak nk ck] rfl rfl rfl (wl_call rfl rfl (vs:= [.agg #[.bool sk,.slice Ak nk ck]]) (by kernel_rfl) (by decide) (g_zint_Sign (hk.ext e4).zi (hk.le (lx_ Lk rfl))) ?_))
  rintro _ v10 ⟨xr12,rfl,r12,e11⟩
  refine ret_intro ?_
  have hw2:UpS (LS n gl gs gr RA ra) w v10:=hw1.ext e11
  obtain rfl:=r12
  refine wl_cmp rfl rfl rfl false (scmp_eq_f hx0) (by decide) (ne_ (cw_false rfl (cw_skip (eo_then (sr (mv 1 rfl (pf gl 0 rfl (by kernel_rfl) (pf gl 1 rfl (by kernel_rfl) (wl_load rfl rfl (load_cell cellSides (hP1.ext (e4.trans e11)).bl rfl) (by decide) (pu (v:= .int .i64 1) rfl (by kernel_rfl) (mv 1 rfl (ne_ (cw_block ?_)))))))))))))
  refine cw_loop (T:=World×Nat) (fun⟨wr,i0⟩=> [(0,.pointer (some ⟨gl,0,none⟩)),(1,.int .i64 ((i:Nat):Int)),(2,.int .i64 ((j:Nat):Int)),(3,.agg #[.bool sk,.slice Ak nk ck]),(7,.pointer (some ⟨g2,0,none⟩)),(10,.agg #[.bool sk,.slice Ak nk ck]),(11,.int .i64 (scmp x 0)),(12,.bool false),(13,.pointer (some ⟨gl,0,none⟩)),(14,.pointer (some ⟨gl,0,none⟩)),(15,.pointer (some ⟨gl,1,none⟩)),(16,.slice (some ⟨gs,0,none⟩) 1 1),(17,.int .i64 1),(18,.int .i64 ((i0:Nat):Int))]) (fun⟨wr,i0⟩=>wr) (fun⟨wr,i0⟩=>(UpS (LS n gl gs gr RA ra) w wr)∧(i0≤1)∧(Bk wr g2 41 [.bool sk,.slice Ak nk ck])∧(Zr wr b_k sk Ak nk ck (x))∧(Ldr lb n cc gl gs gr RA rcap ra rc wr (fun a b=>if i0=0 then Z a b else (adR i j x Z) a b))) (fun⟨wr,i0⟩=>1-i0)
   (⟨v10,0⟩:World×Nat) ⟨hw2,(by omega),(hb5.ext e11),(hk.ext (e4.trans e11)),((hP1.ext (e4.trans e11)).ldr.cong fun a b _ _=>if_pos rfl)⟩ rfl ⟨rfl,rfl,rfl,rfl,rfl,rfl,rfl,rfl,rfl,rfl,rfl,rfl,rfl,rfl,trivial⟩ ?_
  rintro⟨wr,i0⟩ ⟨hw1,hi_i0,b_g2,z_g2,hl_wr⟩
  refine cw_re [(0,.pointer (some ⟨gl,0,none⟩)),(1,.int .i64 ((i:Nat):Int)),(2,.int .i64 ((j:Nat):Int)),(3,.agg #[.bool sk,.slice Ak nk ck]),(7,.pointer (some ⟨g2,0,none⟩)),(10,.agg #[.bool sk,.slice Ak nk ck]),(11,.int .i64 (scmp x 0)),(12,.bool false),(13,.pointer (some ⟨gl,0,none⟩)),(14,.pointer (some ⟨gl,0,none⟩)),(15,.pointer (some ⟨gl,1,none⟩)),(16,.slice (some ⟨gs,0,none⟩) 1 1),(17,.int .i64 1),(18,.int .i64 ((i0:Nat):Int))] wr rfl ⟨rfl,rfl,rfl,rfl,rfl,rfl,rfl,rfl,rfl,rfl,rfl,rfl,rfl,rfl,trivial⟩ ?_
  obtain⟨ps13,Y13,hP13⟩:=(hl_wr).op
  refine cw_seq ?_
  by_cases hi1:i0<1
  · 
   have hi0:i0=0:=by omega
   have hZ13:∀a b,(fun a b=>if i0=0 then Z a b else (adR i j x Z) a b) a b=Z a b:=fun a b=>by simp only [hi0,if_true]
   have hQ:=hP13.ldr.cong (Y:=Z) fun a b _ _=>(hZ13 a b).symm
   obtain⟨ps14,Y14,hP14⟩:=(hQ).op
   refine cw_region (wl_cmp rfl rfl rfl true (cb_lt_t (a:=i0) (b:=1) rfl rfl (by omega)) (by decide) (ne_ (cw_seq (cw_true rfl (cw_skip (eo_then (cw_seq (cw_block (sr (wl_idx rfl rfl rfl Tryz.underlying97 aggSide.size 0 (by omega) (by decide) ⟨gs,0,none⟩ rfl (by decide) (lo aggSide hP14.bs [.func (.func 83) #[] #[.pointer (some ⟨gr,0,none⟩)],.func (.func 84) #[] #[.pointer (some ⟨gr,0,none⟩)],.func (.func 85) #[] #[.pointer (some ⟨gr,0,none⟩)],.func (.func 87) #[] #[.pointer (some ⟨gr,0,none⟩)]] rfl rfl rfl (wl_alloc rfl (z:= .agg #[.nilFunc,.nilFunc,.nilFunc,.nilFunc]) (vs:= [.nilFunc,.nilFunc,.nilFunc,.nilFunc]) (fun _=>by kernel_rfl) rfl (by decide) fun g15 v16 nb=>?_))))))))))))
   have hb18:=nb.bk
   have ge19:w.heap.size≤g15:=by rw [←nb.at_];exact hw1.size
   have q20:g2<g15:=by rw [←nb.at_];exact b_g2.lt
   have e17:=nb.ext
   clear nb
   have hw2:UpS (LS n gl gs gr RA ra) w v16:=hw1.ext e17
   refine wl_stored rfl rfl rfl aggSide rfl hb18 (bq rfl) rfl [.func (.func 83) #[] #[.pointer (some ⟨gr,0,none⟩)],.func (.func 84) #[] #[.pointer (some ⟨gr,0,none⟩)],.func (.func 85) #[] #[.pointer (some ⟨gr,0,none⟩)],.func (.func 87) #[] #[.pointer (some ⟨gr,0,none⟩)]] rfl fun v21 hb23 u24 hs25=>?_
   have hw3:UpS (LS n gl gs gr RA ra) w v21:=hw2.upd u24 ge19
   refine ne_ (cw_region (pf g15 2 rfl (by kernel_rfl) (wl_load rfl rfl (load_cell cellAd hb23 rfl) (by decide) (mv 2 rfl (lo aggInt ((b_g2.ext e17).updN u24 (by omega)) [.bool sk,.slice Ak nk ck] rfl rfl rfl (wl_callF [.int .i64 ((i:Nat):Int),.int .i64 ((j:Nat):Int),.agg #[.bool sk,.slice Ak nk ck]] rfl rfl rfl (enters_of Tryz.func85 (by kernel_rfl) rfl) (by decide) (g_ld_add ((hP14.ext e17).updT hb18 u24 (fun q=>absurd (hLS _ q) (by have:=ge19;omega))) (Nat.le_trans hlb hw3.size) hcc hi2 hj2 hij ((z_g2.ext e17).updT hb18 u24) Lk hS) ?_))))))
   rintro _ v26 ⟨rfl,hl27,us28⟩
   refine ret_intro ?_
   have no29:=((hP14.ext e17).updT hb18 u24 (fun q=>absurd (hLS _ q) (by have:=ge19;omega))).ldr.no64
   have hw4:UpS (LS n gl gs gr RA ra) w v26:=hw3.trans us28
   obtain⟨ps30,Y30,hP30⟩:=(hl27).op
   refine wl_nil (eo_block_normal (eo_then (cw_region (wl_ar rfl rfl rfl ((i0+1:Nat):Int) (ai_add (a:=i0) (b:=1) rfl rfl (by omega)) (by decide) (mv 1 rfl (wl_nil (eo_round (⟨v26,i0+1⟩:World×Nat) ⟨hw4,(by omega),(((b_g2.ext e17).updN u24 (by omega)).upS us28 (fun q=>absurd (hLS _ q) (by have:=ge6;omega))),(((z_g2.ext e17).updT hb18 u24).upS us28 no29),(hP30.ldr.cong fun a b _ _=>if_neg (by omega))⟩ (show 1-(i0+1)<1-i0 by omega) rfl ⟨rfl,rfl,rfl,rfl,rfl,rfl,rfl,rfl,rfl,rfl,rfl,rfl,rfl,rfl,trivial⟩)))))))
  · 
   refine cw_region (wl_cmp rfl rfl rfl false (cb_lt_f (a:=i0) (b:=1) rfl rfl (by omega)) (by decide) (ne_ (cw_seq (cw_false rfl (cw_exit (eo_thenX (eo_loopX (eo_block_here (eo_end [] rfl trivial ?_)))))))))
   exact⟨rfl,hP13.ldr.cong (fun a b _ _=>by simp only [show i0≠0 by omega,if_false]),hw1⟩
set_option maxHeartbeats 4000000 in
theorem g_ladM_mix {w:World}{lb n cc gl gs gr:Nat}{RA:Option Addr}{rcap:Nat}{ra:Nat→Option Addr}{rc:Nat→Nat}{Z:Mx}(hL:Ldr lb n cc gl gs gr RA rcap ra rc w Z) (hlb:lb≤w.heap.size) (hcc:cc≤64){i j:Nat}(hi2:i<n) (hj2:j<n) (hij:i≠j){x1 x2 x3 x4:Int}{b_k1:Nat}{sk1:Bool}{Ak1:Option Addr}{nk1 ck1:Nat}(hk1:Zr w b_k1 sk1 Ak1 nk1 ck1 x1) (Lk1:ln x1≤68719476736){b_k2:Nat}{sk2:Bool}{Ak2:Option Addr}{nk2 ck2:Nat}(hk2:Zr w b_k2 sk2 Ak2 nk2 ck2 x2) (Lk2:ln x2≤68719476736){b_k3:Nat}{sk3:Bool}{Ak3:Option Addr}{nk3 ck3:Nat}(hk3:Zr w b_k3 sk3 Ak3 nk3 ck3 x3) (Lk3:ln x3≤68719476736){b_k4:Nat}{sk4:Bool}{Ak4:Option Addr}{nk4 ck4:Nat}(hk4:Zr w b_k4 sk4 Ak4 nk4 ck4 x4) (Lk4:ln x4≤68719476736) (hq2:∀b,b<cc→ln (x2*Z j b)≤68719476736) (hq4:∀b,b<cc→ln (x4*Z j b)≤68719476736) (hb1:∀b,b<cc→ln (x1*Z i b+x2*Z j b)≤68719476736) (hb2:∀b,b<cc→ln (x3*Z i b+x4*Z j b)≤68719476736):
    Calls Tryz.prog 107 #[.pointer (some ⟨gl,0,none⟩),.int .i64 ((i:Nat):Int),.int .i64 ((j:Nat):Int),.agg #[.bool sk1,.slice Ak1 nk1 ck1,.bool sk2,.slice Ak2 nk2 ck2,.bool sk3,.slice Ak3 nk3 ck3,.bool sk4,.slice Ak4 nk4 ck4]] w (fun e w'=>e= .returned (.tuple #[])∧Ldr lb n cc gl gs gr RA rcap ra rc w' (mxR i j x1 x2 x3 x4 Z)∧UpS (LS n gl gs gr RA ra) w w'):=by
 refine sx_enter Tryz.func107 rfl (n:=26) rfl (bq rfl) (args:= [.pointer (some ⟨gl,0,none⟩),.int .i64 ((i:Nat):Int),.int .i64 ((j:Nat):Int),.agg #[.bool sk1,.slice Ak1 nk1 ck1,.bool sk2,.slice Ak2 nk2 ck2,.bool sk3,.slice Ak3 nk3 ck3,.bool sk4,.slice Ak4 nk4 ck4]]) ?_
 have hLS:∀k,LS n gl gs gr RA ra k→k<w.heap.size:=fun k hk=>(hL.lt hk).2
 obtain⟨ps1,Y1,hP1⟩:=(hL).op
 have hcap:=hP1.ho.rv.le
 refine cw_keep [(0,.pointer (some ⟨gl,0,none⟩)),(1,.int .i64 ((i:Nat):Int)),(2,.int .i64 ((j:Nat):Int)),(3,.agg #[.bool sk1,.slice Ak1 nk1 ck1,.bool sk2,.slice Ak2 nk2 ck2,.bool sk3,.slice Ak3 nk3 ck3,.bool sk4,.slice Ak4 nk4 ck4])] ⟨rfl,rfl,rfl,rfl,trivial⟩ (sr (wl_box rfl rfl (vs:= [.bool sk1,.slice Ak1 nk1 ck1,.bool sk2,.slice Ak2 nk2 ck2,.bool sk3,.slice Ak3 nk3 ck3,.bool sk4,.slice Ak4 nk4 ck4]) rfl (by decide) fun g2 v3 nb=>?_))
 have hb5:=nb.bk
 have ge6:w.heap.size≤g2:=by rw [←nb.at_];exact (UpS.refl (LS n gl gs gr RA ra) w).size
 have e4:=nb.ext
 clear nb
 have hw1:UpS (LS n gl gs gr RA ra) w v3:=(UpS.refl (LS n gl gs gr RA ra) w).ext e4
 refine ne_ (sr (mv 1 rfl (pf gl 0 rfl (by kernel_rfl) (pf gl 1 rfl (by kernel_rfl) (wl_load rfl rfl (load_cell cellSides (hP1.ext e4).bl rfl) (by decide) (pu (v:= .int .i64 1) rfl (by kernel_rfl) (mv 1 rfl (ne_ (cw_block ?_)))))))))
 refine cw_loop (T:=World×Nat) (fun⟨wr,i0⟩=> [(0,.pointer (some ⟨gl,0,none⟩)),(1,.int .i64 ((i:Nat):Int)),(2,.int .i64 ((j:Nat):Int)),(3,.agg #[.bool sk1,.slice Ak1 nk1 ck1,.bool sk2,.slice Ak2 nk2 ck2,.bool sk3,.slice Ak3 nk3 ck3,.bool sk4,.slice Ak4 nk4 ck4]),(7,.pointer (some ⟨g2,0,none⟩)),(10,.pointer (some ⟨gl,0,none⟩)),(11,.pointer (some ⟨gl,0,none⟩)),(12,.pointer (some ⟨gl,1,none⟩)),(13,.slice (some ⟨gs,0,none⟩) 1 1),(14,.int .i64 1),(15,.int .i64 ((i0:Nat):Int))]) (fun⟨wr,i0⟩=>wr) (fun⟨wr,i0⟩=>(UpS (LS n gl gs gr RA ra) w wr)∧(i0≤1)∧(Bk wr g2 124 [.bool sk1,.slice Ak1 nk1 ck1,.bool sk2,.slice Ak2 nk2 ck2,.bool sk3,.slice Ak3 nk3 ck3,.bool sk4,.slice Ak4 nk4 ck4])∧(Zr wr b_k1 sk1 Ak1 nk1 ck1 (x1))∧(Zr wr b_k2 sk2 Ak2 nk2 ck2 (x2))∧(Zr wr b_k3 sk3 Ak3 nk3 ck3 (x3))∧(Zr wr b_k4 sk4 Ak4 nk4 ck4 (x4))∧(Ldr lb n cc gl gs gr RA rcap ra rc wr (fun a b=>if i0=0 then Z a b else (mxR i j x1 x2 x3 x4 Z) a b))) (fun⟨wr,i0⟩=>1-i0)
  (⟨v3,0⟩:World×Nat) ⟨hw1,(by omega),hb5,(hk1.ext e4),(hk2.ext e4),(hk3.ext e4),(hk4.ext e4),((hP1.ext e4).ldr.cong fun a b _ _=>if_pos rfl)⟩ rfl ⟨rfl,rfl,rfl,rfl,rfl,rfl,rfl,rfl,rfl,rfl,rfl,trivial⟩ ?_
 rintro⟨wr,i0⟩ ⟨hw1,hi_i0,b_g2,z_g2_1,z_g2_2,z_g2_3,z_g2_4,hl_wr⟩
 refine cw_re [(0,.pointer (some ⟨gl,0,none⟩)),(1,.int .i64 ((i:Nat):Int)),(2,.int .i64 ((j:Nat):Int)),(3,.agg #[.bool sk1,.slice Ak1 nk1 ck1,.bool sk2,.slice Ak2 nk2 ck2,.bool sk3,.slice Ak3 nk3 ck3,.bool sk4,.slice Ak4 nk4 ck4]),(7,.pointer (some ⟨g2,0,none⟩)),(10,.pointer (some ⟨gl,0,none⟩)),(11,.pointer (some ⟨gl,0,none⟩)),(12,.pointer (some ⟨gl,1,none⟩)),(13,.slice (some ⟨gs,0,none⟩) 1 1),(14,.int .i64 1),(15,.int .i64 ((i0:Nat):Int))] wr rfl ⟨rfl,rfl,rfl,rfl,rfl,rfl,rfl,rfl,rfl,rfl,rfl,trivial⟩ ?_
 obtain⟨ps7,Y7,hP7⟩:=(hl_wr).op
 refine cw_seq ?_
 by_cases hi1:i0<1
 · 
  have hi0:i0=0:=by omega
  have hZ7:∀a b,(fun a b=>if i0=0 then Z a b else (mxR i j x1 x2 x3 x4 Z) a b) a b=Z a b:=fun a b=>by simp only [hi0,if_true]
  have hQ:=hP7.ldr.cong (Y:=Z) fun a b _ _=>(hZ7 a b).symm
  obtain⟨ps8,Y8,hP8⟩:=(hQ).op
  refine cw_region (wl_cmp rfl rfl rfl true (cb_lt_t (a:=i0) (b:=1) rfl rfl (by omega)) (by decide) (ne_ (cw_seq (cw_true rfl (cw_skip (eo_then (cw_seq (cw_block (sr (wl_idx rfl rfl rfl Tryz.underlying97 aggSide.size 0 (by omega) (by decide) ⟨gs,0,none⟩ rfl (by decide) (lo aggSide hP8.bs [.func (.func 83) #[] #[.pointer (some ⟨gr,0,none⟩)],.func (.func 84) #[] #[.pointer (some ⟨gr,0,none⟩)],.func (.func 85) #[] #[.pointer (some ⟨gr,0,none⟩)],.func (.func 87) #[] #[.pointer (some ⟨gr,0,none⟩)]] rfl rfl rfl (wl_alloc rfl (z:= .agg #[.nilFunc,.nilFunc,.nilFunc,.nilFunc]) (vs:= [.nilFunc,.nilFunc,.nilFunc,.nilFunc]) (fun _=>by kernel_rfl) rfl (by decide) fun g9 v10 nb=>?_))))))))))))
  have hb12:=nb.bk
  have ge13:w.heap.size≤g9:=by rw [←nb.at_];exact hw1.size
  have q14:g2<g9:=by rw [←nb.at_];exact b_g2.lt
  have e11:=nb.ext
  clear nb
  have hw2:UpS (LS n gl gs gr RA ra) w v10:=hw1.ext e11
  refine wl_stored rfl rfl rfl aggSide rfl hb12 (bq rfl) rfl [.func (.func 83) #[] #[.pointer (some ⟨gr,0,none⟩)],.func (.func 84) #[] #[.pointer (some ⟨gr,0,none⟩)],.func (.func 85) #[] #[.pointer (some ⟨gr,0,none⟩)],.func (.func 87) #[] #[.pointer (some ⟨gr,0,none⟩)]] rfl fun v15 hb17 u18 hs19=>?_
  have hw3:UpS (LS n gl gs gr RA ra) w v15:=hw2.upd u18 ge13
  refine ne_ (cw_region (pf g9 3 rfl (by kernel_rfl) (wl_load rfl rfl (load_cell cellMx hb17 rfl) (by decide) (mv 2 rfl (lo agg22 ((b_g2.ext e11).updN u18 (by omega)) [.bool sk1,.slice Ak1 nk1 ck1,.bool sk2,.slice Ak2 nk2 ck2,.bool sk3,.slice Ak3 nk3 ck3,.bool sk4,.slice Ak4 nk4 ck4] rfl rfl rfl (wl_callF [.int .i64 ((i:Nat):Int),.int .i64 ((j:Nat):Int),.agg #[.bool sk1,.slice Ak1 nk1 ck1,.bool sk2,.slice Ak2 nk2 ck2,.bool sk3,.slice Ak3 nk3 ck3,.bool sk4,.slice Ak4 nk4 ck4]] rfl rfl rfl (enters_of Tryz.func87 (by kernel_rfl) rfl) (by decide) (g_ld_mix ((hP8.ext e11).updT hb12 u18 (fun q=>absurd (hLS _ q) (by have:=ge13;omega))) (Nat.le_trans hlb hw3.size) hcc hi2 hj2 hij ((z_g2_1.ext e11).updT hb12 u18) Lk1 ((z_g2_2.ext e11).updT hb12 u18) Lk2 ((z_g2_3.ext e11).updT hb12 u18) Lk3 ((z_g2_4.ext e11).updT hb12 u18) Lk4 hq2 hq4 hb1 hb2) ?_))))))
  rintro _ v20 ⟨rfl,hl21,us22⟩
  refine ret_intro ?_
  have no23:=((hP8.ext e11).updT hb12 u18 (fun q=>absurd (hLS _ q) (by have:=ge13;omega))).ldr.no64
  have hw4:UpS (LS n gl gs gr RA ra) w v20:=hw3.trans us22
  obtain⟨ps24,Y24,hP24⟩:=(hl21).op
  refine wl_nil (eo_block_normal (eo_then (cw_region (wl_ar rfl rfl rfl ((i0+1:Nat):Int) (ai_add (a:=i0) (b:=1) rfl rfl (by omega)) (by decide) (mv 1 rfl (wl_nil (eo_round (⟨v20,i0+1⟩:World×Nat) ⟨hw4,(by omega),(((b_g2.ext e11).updN u18 (by omega)).upS us22 (fun q=>absurd (hLS _ q) (by have:=ge6;omega))),(((z_g2_1.ext e11).updT hb12 u18).upS us22 no23),(((z_g2_2.ext e11).updT hb12 u18).upS us22 no23),(((z_g2_3.ext e11).updT hb12 u18).upS us22 no23),(((z_g2_4.ext e11).updT hb12 u18).upS us22 no23),(hP24.ldr.cong fun a b _ _=>if_neg (by omega))⟩ (show 1-(i0+1)<1-i0 by omega) rfl ⟨rfl,rfl,rfl,rfl,rfl,rfl,rfl,rfl,rfl,rfl,rfl,trivial⟩)))))))
 · 
  refine cw_region (wl_cmp rfl rfl rfl false (cb_lt_f (a:=i0) (b:=1) rfl rfl (by omega)) (by decide) (ne_ (cw_seq (cw_false rfl (cw_exit (eo_thenX (eo_loopX (eo_block_here (eo_end [] rfl trivial ?_)))))))))
  exact⟨rfl,hP7.ldr.cong (fun a b _ _=>by simp only [show i0≠0 by omega,if_false]),hw1⟩
abbrev I6 (x:Nat):Value:= .int .i64 (x:Int)
theorem infoInt:(Tryz.prog.info? 3).map (fun i=>(i.zero,i.size,i.bytes))=some (some (.int .i64 0),1,8):=by kernel_rfl
theorem map_I6_set (xs:List Nat) (i x:Nat):(xs.map I6).set i (.int .i64 (x:Int))=(xs.set i x).map I6:=by rw [List.map_set]
theorem replicate_I6 (n:Nat):List.replicate n (Value.int .i64 0)=(List.replicate n 0).map I6:=by rw [List.map_replicate];rfl
theorem sz_int (w:World):(sizeOf 3).run Tryz.prog w= .ok 1 w:=by kernel_rfl
theorem ag_int (w:World):(isAgg 3).run Tryz.prog w= .ok false w:=by kernel_rfl
theorem un_int:Tryz.prog.underlying 79=some (.slice 3):=Tryz.underlying79
theorem g_FloorP {w:World}{b:Nat}(hb:b≤w.heap.size){s t:Bool}{A B:Option Addr}{n cap m cap':Nat}{x y:Int}(hx:Zi w s A n cap x) (hl:n≤68719476736) (hy:Zi w t B m cap' y) (hl':m≤68719476736) (h0:0<y):
  Calls Tryz.prog 104 #[.agg #[.bool s,.slice A n cap],.agg #[.bool t,.slice B m cap']] w (Gv w (T3 (ZR b (x/y)) (ZR b (x%y)) (Is (.int .i64 0)))):=by
 refine (zint_Floor hx hl hy hl' (by omega)).mono fun e w' h=>?_
 obtain⟨q,r,h1,h2⟩:=h
 have h5:=h1.out
 have h3:=h5.eq
 have h4:=h5.pos h0
 obtain⟨e1,e2⟩:=(Int.ediv_emod_unique (b:=y) h0).2 ⟨show r+y*q=x by rw [Int.mul_comm];omega,h4⟩
 rw [e1,e2];exact gzze hb _ _ h2
theorem ln_edivP {x y:Int}{K:Nat}(_hy:0<y) (h:ln x≤K):ln (x/y)≤K:=by
 refine Nat.le_trans (ln_mono ?_) h
 have h1:=Int.natAbs_ediv_le_natAbs x y
 exact h1
theorem ln_emodP {x y:Int}{K:Nat}(hy:0<y) (h:ln y≤K):ln (x%y)≤K:=by
 refine Nat.le_trans (ln_mono ?_) h
 have h1:=Int.emod_nonneg x (show y≠0 by omega)
 have h2:=Int.emod_lt_of_pos x hy
 omega
def stC (c n t s:Nat) (Z:Mx):Mx:=rrS (fun k=>ldr c (Z k)) (n-1-t) s (ssS (fun k=>ldr c (Z k)) n t Z)
structure Szt (c n R B:Nat) (Z:Mx):Prop where
 ech:Ech c n Z
 ent:∀i b,i<n→b<c→ln (Z i b)≤R
 fin:∀i b,i<n→b<c→ln (stl c n Z i b)≤B
section
variable {c n R B t s k:Nat}{Z:Mx}
theorem ssS_low (ld:Nat→Nat){a:Nat}:∀t,a<n-t→ssS ld n t Z a=Z a
 | 0,_=>rfl
 | t+1,h=>by
  show rrS ld (n-1-t) t (ssS ld n t Z) a=_
  rw [rrS_ne ld (by omega),ssS_low ld t (by omega)]
theorem stC_oth (ht:t<n) (hk:n-1-t<k):stC c n t s Z k=stl c n Z k:=by
 unfold stC stl
 rw [rrS_ne _ (by omega)]
 have h:=ssS_fin (fun k=>ldr c (Z k)) n Z (k:=k) (t:=t) (by omega) (n-t) (by omega)
 rw [show t+(n-t)=n by omega] at h
 exact h.symm
theorem stC_next (b:Nat):stC c n t (s+1) Z (n-1-t) b=stC c n t s Z (n-1-t) b+ -(stC c n t s Z (n-1-t) (ldr c (Z (n-1-t+1+s)))/stC c n t s Z (n-1-t+1+s) (ldr c (Z (n-1-t+1+s))))*stC c n t s Z (n-1-t+1+s) b:=adR_at _ _ _ _ _
theorem Szt.piv (h:Szt c n R B Z) (ht:t<n) (hk:n-1-t<k) (hkn:k<n):0<stC c n t s Z k (ldr c (Z k)):=by
 rw [stC_oth ht hk]
 have hs:=ssS_std h.ech n (Nat.le_refl n)
 unfold stl
 rw [hs.pv k hkn]
 exact h.ech.pos k hkn
theorem Szt.oth (h:Szt c n R B Z) (ht:t<n) (hk:n-1-t<k) (hkn:k<n){b:Nat}(hb:b<c):ln (stC c n t s Z k b)≤B:=by rw [stC_oth ht hk];exact h.fin k b hkn hb
theorem Szt.row (h:Szt c n R B Z) (ht:t<n):∀s,s≤t→∀b,b<c→ln (stC c n t s Z (n-1-t) b)≤R+s*(B+1)
 | 0,_,b,hb=>by
  show ln (ssS (fun k=>ldr c (Z k)) n t Z (n-1-t) b)≤_
  rw [ssS_low _ t (by omega)]
  exact Nat.le_trans (h.ent _ b (by omega) hb) (by omega)
 | s+1,hs,b,hb=>by
  have hl:=h.ech.lt (n-1-t+1+s) (by omega)
  rw [stC_next]
  have h1:=h.row ht s (by omega) b hb
  have h2:=ln_edivP (h.piv (s:=s) ht (show n-1-t<n-1-t+1+s by omega) (by omega)) (h.row ht s (by omega) (ldr c (Z (n-1-t+1+s))) hl)
  rw [←ln_neg] at h2
  have h3:=ln_add h1 (ln_mul h2 (h.oth (s:=s) ht (show n-1-t<n-1-t+1+s by omega) (by omega) hb))
  refine Nat.le_trans h3 ?_
  rw [Nat.succ_mul]
  omega
theorem Szt.rowK (h:Szt c n R B Z) (ht:t<n) (hs:s≤t) (hn:n≤64){K:Nat}(hK:R+65*(B+1)≤K){b:Nat}(hb:b<c):ln (stC c n t s Z (n-1-t) b)≤K:=by
 have h1:=h.row ht s hs b hb
 have h2:=Nat.mul_le_mul_right (B+1) (show s≤65 by omega)
 omega
end
theorem g_ld_Lead {lb N c gl gs gr:Nat}{RA:Option Addr}{rcap:Nat}{ra:Nat→Option Addr}{rc:Nat→Nat}{w:World}{ps:List Nat}{Y Z:Mx}(h:LdP lb N c gl gs gr RA rcap ra rc w ps Y Z) (hcc:c≤64){i:Nat}(hi:i<N):
  Calls Tryz.prog 89 #[.slice (ra (ps.getD i 0)) c (rc (ps.getD i 0))] w (Gv w (Is (.int .i64 ((ldr c (Z i):Nat):Int)))):=by
 obtain⟨zs,hz,he⟩:=h.rowz hi
 have h1:=g_lad_Lead hz.zf0 (Nat.le_trans hcc (by decide))
 rw [ldr_congr he] at h1
 exact h1
set_option maxHeartbeats 8000000 in
set_option maxRecDepth 20000 in
theorem g_ladM_settle {w:World}{lb n cc gl gs gr:Nat}{RA:Option Addr}{rcap:Nat}{ra:Nat→Option Addr}{rc:Nat→Nat}{Z:Mx}(hL:Ldr lb n cc gl gs gr RA rcap ra rc w Z) (hlb:lb≤w.heap.size) (hcc:cc≤64){m R B:Nat}(hn:n≤64) (hm:m≤n) (hS:Szt cc m R B Z) (hK:R+65*(B+1)≤68719476736):
    Calls Tryz.prog 90 #[.pointer (some ⟨gl,0,none⟩),.int .i64 ((m:Nat):Int)] w (fun e w'=>e= .returned (.tuple #[])∧Ldr lb n cc gl gs gr RA rcap ra rc w' (stl cc m Z)∧UpS (LS n gl gs gr RA ra) w w'):=by
 refine sx_enter Tryz.func90 rfl (n:=79) rfl (bq rfl) (args:= [.pointer (some ⟨gl,0,none⟩),.int .i64 ((m:Nat):Int)]) ?_
 have hLS:∀k,LS n gl gs gr RA ra k→k<w.heap.size:=fun k hk=>(hL.lt hk).2
 obtain⟨ps1,Y1,hP1⟩:=(hL).op
 have hcap:=hP1.ho.rv.le
 refine cw_keep [(0,.pointer (some ⟨gl,0,none⟩)),(1,.int .i64 ((m:Nat):Int))] ⟨rfl,rfl,trivial⟩ (sr (mv 1 rfl (wl_make rfl (k:=m) rfl rfl rfl un_int infoInt rfl (by decide) (by omega) (by decide) fun g2 v3 hg4 hb5 e6=>?_)))
 rw [replicate_I6] at hb5
 have ge7:w.heap.size≤g2:=by rw [←hg4];exact (UpS.refl (LS n gl gs gr RA ra) w).size
 clear hg4
 have hw1:UpS (LS n gl gs gr RA ra) w v3:=(UpS.refl (LS n gl gs gr RA ra) w).ext e6
 refine mv 1 rfl (ne_ (cw_seq (sr (mv 1 rfl (pu (v:= .int .i64 ((m:Nat):Int)) rfl (by kernel_rfl) (mv 1 rfl (ne_ (cw_block ?_))))))))
 refine cw_loop (T:=World×Nat×List Nat) (fun⟨wr,i,ls⟩=> [(0,.pointer (some ⟨gl,0,none⟩)),(1,.int .i64 ((m:Nat):Int)),(4,.slice (some ⟨g2,0,none⟩) m m),(12,.int .i64 ((m:Nat):Int)),(13,.slice (some ⟨g2,0,none⟩) m m),(14,.slice (some ⟨g2,0,none⟩) m m),(15,.int .i64 ((m:Nat):Int)),(16,.int .i64 ((i:Nat):Int))]) (fun⟨wr,i,ls⟩=>wr) (fun⟨wr,i,ls⟩=>(UpS (LS n gl gs gr RA ra) w wr)∧(i≤m)∧(Ldr lb n cc gl gs gr RA rcap ra rc wr Z)∧(Bk wr g2 3 (ls.map I6))∧(ls.length=m)∧(∀a,a<i→ls.getD a 0=ldr cc (Z a))) (fun⟨wr,i,ls⟩=>m-i)
  (⟨v3,0,List.replicate m 0⟩:World×Nat×List Nat) ⟨hw1,(by omega),(hP1.ext e6).ldr,hb5,List.length_replicate,(fun a h=>absurd h (Nat.not_lt_zero a))⟩ rfl ⟨rfl,rfl,rfl,rfl,rfl,rfl,rfl,rfl,trivial⟩ ?_
 rintro⟨wr,i,ls⟩ ⟨hw1,hi_i,hl_wr,ha_g2wr,hll,hls⟩
 refine cw_re [(0,.pointer (some ⟨gl,0,none⟩)),(1,.int .i64 ((m:Nat):Int)),(4,.slice (some ⟨g2,0,none⟩) m m),(12,.int .i64 ((m:Nat):Int)),(13,.slice (some ⟨g2,0,none⟩) m m),(14,.slice (some ⟨g2,0,none⟩) m m),(15,.int .i64 ((m:Nat):Int)),(16,.int .i64 ((i:Nat):Int))] wr rfl ⟨rfl,rfl,rfl,rfl,rfl,rfl,rfl,rfl,trivial⟩ ?_
 obtain⟨ps9,Y9,hP9⟩:=(hl_wr).op
 refine cw_seq ?_
 by_cases hiN:i<m
 · 
  refine cw_region (wl_cmp rfl rfl rfl true (cb_lt_t (a:=i) (b:=m) rfl rfl (by omega)) (by decide) (ne_ (cw_seq (cw_true rfl (cw_skip (eo_then (cw_seq (cw_block (sr (mv 2 rfl (ne_ (cw_region (mv 1 rfl ?_)))))))))))))
  refine mv 2 rfl (pf gl 0 rfl (by kernel_rfl) (pf gl 0 rfl (by kernel_rfl) (wl_load rfl rfl (load_cell cellRows hP9.bl rfl) (by decide) (mv 1 rfl ?_))))
  obtain⟨pz10,hpz10,hcz10⟩:=(hP9.ho).rowAt (i:=i) (by omega)
  refine wl_idx rfl rfl rfl unRows szInts i rfl (by omega) pz10 hpz10 (by decide) (wl_load rfl rfl (load_cell1 cellInts hcz10) (by decide) (wl_call rfl rfl (vs:= [.slice (ra (ps9.getD i 0)) cc (rc (ps9.getD i 0))]) (by kernel_rfl) (by decide) (g_ld_Lead hP9 hcc (i:=i) (by omega)) ?_))
  rintro _ v11 ⟨xr13,rfl,r13,e12⟩
  refine ret_intro ?_
  have hw2:UpS (LS n gl gs gr RA ra) w v11:=hw1.ext e12
  obtain rfl:=r13
  refine wl_idx rfl rfl rfl un_int sz_int i rfl (by omega) ⟨g2,i,none⟩ (arr_at _ _) (by decide) ?_
  have hb15:=(ha_g2wr.ext e12)
  refine wl_stored1 rfl rfl rfl sz_int rfl hb15 (len_map (by rw [hll];omega)) rfl ((ls.set i (ldr cc (Z i))).map I6) (map_I6_set _ _ _) fun v14 hb16 u17 hs18=>?_
  have hw3:UpS (LS n gl gs gr RA ra) w v14:=hw2.upd u17 ge7
  refine wl_nil (eo_block_normal (eo_then (cw_region (wl_ar rfl rfl rfl ((i+1:Nat):Int) (ai_add (a:=i) (b:=1) rfl rfl (by omega)) (by decide) (mv 1 rfl (wl_nil (eo_round (⟨v14,i+1,ls.set i (ldr cc (Z i))⟩:World×Nat×List Nat) ⟨hw3,(by omega),((hP9.ext e12).updT hb15 u17 (fun q=>absurd (hLS _ q) (by have:=ge7;omega))).ldr,hb16,(len_set (l:=ls) (hll)),(fun a ha=>by rw [getD_set (by rw [hll];omega)];split <;> rename_i h9;(· rw [h9]);exact hls a (by omega))⟩ (show m-(i+1)<m-i by omega) rfl ⟨rfl,rfl,rfl,rfl,rfl,rfl,rfl,rfl,trivial⟩)))))))
 · 
  refine cw_region (wl_cmp rfl rfl rfl false (cb_lt_f (a:=i) (b:=m) rfl rfl (by omega)) (by decide) (ne_ (cw_seq (cw_false rfl (cw_exit (eo_thenX (eo_loopX (eo_block_here (eo_then (sr (mv 1 rfl (wl_ar rfl rfl rfl (((m-0:Nat):Int)-1) (ar_i64s rfl (by omega) (by omega)) (by decide) (mv 1 rfl ?_)))))))))))))
  refine ne_ (cw_block ?_)
  have hls:∀a,a<m→ls.getD a 0=ldr cc (Z a):=fun a ha=>hls a (by omega)
  clear hi_i hiN
  refine cw_loop (T:=World×Nat) (fun⟨wr,i⟩=> [(0,.pointer (some ⟨gl,0,none⟩)),(1,.int .i64 ((m:Nat):Int)),(4,.slice (some ⟨g2,0,none⟩) m m),(6,.int .i64 (((m-i:Nat):Int)-1)),(12,.int .i64 ((m:Nat):Int)),(13,.slice (some ⟨g2,0,none⟩) m m),(14,.slice (some ⟨g2,0,none⟩) m m),(15,.int .i64 ((m:Nat):Int)),(17,.bool false),(31,.int .i64 ((m:Nat):Int)),(32,.int .i64 (((m-0:Nat):Int)-1))]) (fun⟨wr,i⟩=>wr) (fun⟨wr,i⟩=>(UpS (LS n gl gs gr RA ra) w wr)∧(i≤m)∧(Ldr lb n cc gl gs gr RA rcap ra rc wr (stC cc m i 0 Z))∧(Bk wr g2 3 (ls.map I6))) (fun⟨wr,i⟩=>m-i)
   (⟨wr,0⟩:World×Nat) ⟨hw1,(by omega),hP9.ldr,ha_g2wr⟩ rfl ⟨rfl,rfl,rfl,rfl,rfl,rfl,rfl,rfl,rfl,rfl,rfl,trivial⟩ ?_
  rintro⟨wr,i⟩ ⟨hw1,hi_i,hl_wr,ha_g2wr⟩
  refine cw_re [(0,.pointer (some ⟨gl,0,none⟩)),(1,.int .i64 ((m:Nat):Int)),(4,.slice (some ⟨g2,0,none⟩) m m),(6,.int .i64 (((m-i:Nat):Int)-1)),(12,.int .i64 ((m:Nat):Int)),(13,.slice (some ⟨g2,0,none⟩) m m),(14,.slice (some ⟨g2,0,none⟩) m m),(15,.int .i64 ((m:Nat):Int)),(17,.bool false),(31,.int .i64 ((m:Nat):Int)),(32,.int .i64 (((m-0:Nat):Int)-1))] wr rfl ⟨rfl,rfl,rfl,rfl,rfl,rfl,rfl,rfl,rfl,rfl,rfl,trivial⟩ ?_
  obtain⟨ps19,Y19,hP19⟩:=(hl_wr).op
  refine cw_seq (cw_seq ?_)
  by_cases hin:i<m
  · 
   rw [show ((m-i:Nat):Int)-1=((m-1-i:Nat):Int) by omega]
   refine cw_region (mv 1 rfl (wl_cmp rfl rfl rfl true (cb_ge_t (a:=m-1-i) (b:=0) rfl rfl (by omega)) (by decide) (ne_ (cw_true rfl (cw_skip (eo_then (cw_seq (cw_block (sr (mv 1 rfl (wl_ar rfl rfl rfl (((m-1-i)+1:Nat):Int) (ai_add (a:=m-1-i) (b:=1) rfl rfl (by omega)) (by decide) (mv 1 rfl (wl_nil ?_)))))))))))))
   refine eo_then (cw_block ?_)
   refine cw_loop (T:=World×Nat) (fun⟨ws,s⟩=> [(0,.pointer (some ⟨gl,0,none⟩)),(1,.int .i64 ((m:Nat):Int)),(4,.slice (some ⟨g2,0,none⟩) m m),(6,.int .i64 ((m-1-i:Nat):Int)),(7,.int .i64 ((m-1-i+1+s:Nat):Int)),(12,.int .i64 ((m:Nat):Int)),(13,.slice (some ⟨g2,0,none⟩) m m),(14,.slice (some ⟨g2,0,none⟩) m m),(15,.int .i64 ((m:Nat):Int)),(17,.bool false),(31,.int .i64 ((m:Nat):Int)),(32,.int .i64 (((m-0:Nat):Int)-1)),(33,.int .i64 ((m-1-i:Nat):Int)),(34,.bool true),(37,.int .i64 ((m-1-i:Nat):Int)),(38,.int .i64 (((m-1-i)+1:Nat):Int))]) (fun⟨ws,s⟩=>ws) (fun⟨ws,s⟩=>(UpS (LS n gl gs gr RA ra) w ws)∧(s≤i)∧(Ldr lb n cc gl gs gr RA rcap ra rc ws (stC cc m i s Z))∧(Bk ws g2 3 (ls.map I6))) (fun⟨ws,s⟩=>i-s)
    (⟨wr,0⟩:World×Nat) ⟨hw1,(by omega),hP19.ldr,ha_g2wr⟩ rfl ⟨rfl,rfl,rfl,rfl,rfl,rfl,rfl,rfl,rfl,rfl,rfl,rfl,rfl,rfl,rfl,rfl,trivial⟩ ?_
   rintro⟨ws,s⟩ ⟨hw1,hi_s,hl_ws,ha_g2ws⟩
   refine cw_re [(0,.pointer (some ⟨gl,0,none⟩)),(1,.int .i64 ((m:Nat):Int)),(4,.slice (some ⟨g2,0,none⟩) m m),(6,.int .i64 ((m-1-i:Nat):Int)),(7,.int .i64 ((m-1-i+1+s:Nat):Int)),(12,.int .i64 ((m:Nat):Int)),(13,.slice (some ⟨g2,0,none⟩) m m),(14,.slice (some ⟨g2,0,none⟩) m m),(15,.int .i64 ((m:Nat):Int)),(17,.bool false),(31,.int .i64 ((m:Nat):Int)),(32,.int .i64 (((m-0:Nat):Int)-1)),(33,.int .i64 ((m-1-i:Nat):Int)),(34,.bool true),(37,.int .i64 ((m-1-i:Nat):Int)),(38,.int .i64 (((m-1-i)+1:Nat):Int))] ws rfl ⟨rfl,rfl,rfl,rfl,rfl,rfl,rfl,rfl,rfl,rfl,rfl,rfl,rfl,rfl,rfl,rfl,trivial⟩ ?_
   obtain⟨ps20,Y20,hP20⟩:=(hl_ws).op
   refine cw_seq (cw_seq ?_)
   by_cases hsi:s<i
   · 
    refine cw_region (mv 2 rfl (wl_cmp rfl rfl rfl true (cb_lt_t (a:=m-1-i+1+s) (b:=m) rfl rfl (by omega)) (by decide) (ne_ (cw_true rfl (cw_skip (eo_then (cw_seq (cw_block (sr (mv 2 rfl (wl_idx rfl rfl rfl un_int sz_int (m-1-i+1+s) rfl (by omega) ⟨g2,m-1-i+1+s,none⟩ (arr_at _ _) (by decide) (wl_load rfl rfl (load_num ag_int ha_g2ws (by rw [hll];omega)) (by decide) (mv 1 rfl ?_)))))))))))))
    refine ne_ (cw_seq ?_)
    rw [hls (m-1-i+1+s) (by omega)]
    have hJ:ldr cc (Z (m-1-i+1+s))<cc:=hS.ech.lt _ (by omega)
    have hLi:∀b,b<cc→ln (stC cc m i s Z (m-1-i) b)≤68719476736:=fun b hb=>hS.rowK (by omega) (by omega) (by omega) hK hb
    have hLk:∀b,b<cc→ln (stC cc m i s Z (m-1-i+1+s) b)≤68719476736:=fun b hb=>Nat.le_trans (hS.oth (by omega) (by omega) (by omega) hb) (by omega)
    have hpv:0<stC cc m i s Z (m-1-i+1+s) (ldr cc (Z (m-1-i+1+s))):=hS.piv (by omega) (by omega) (by omega)
    obtain⟨pz21,hpz21,hcz21⟩:=(hP20.ho).rowAt (i:=m-1-i) (by omega)
    obtain⟨pz22,sz22,Bz22,nz22,cz22,hpz22,ldz22,hKz22,zz22⟩:=(hP20.hc).at (hP20.per.lt (m-1-i) (by omega)) (show ldr cc (Z (m-1-i+1+s))<cc by omega)
    have zz22:=zz22.cast (hP20.ent (m-1-i) (ldr cc (Z (m-1-i+1+s))) (by omega) (by omega)).symm
    obtain⟨pz23,hpz23,hcz23⟩:=(hP20.ho).rowAt (i:=m-1-i+1+s) (by omega)
    obtain⟨pz24,sz24,Bz24,nz24,cz24,hpz24,ldz24,hKz24,zz24⟩:=(hP20.hc).at (hP20.per.lt (m-1-i+1+s) (by omega)) (show ldr cc (Z (m-1-i+1+s))<cc by omega)
    have zz24:=zz24.cast (hP20.ent (m-1-i+1+s) (ldr cc (Z (m-1-i+1+s))) (by omega) (by omega)).symm
    refine cw_drawA mix 27 [22,23,24] [25,26] [Is (.pointer (some ⟨gl,0,none⟩)),Is (.pointer (some ⟨gl,0,none⟩)),Is (.pointer (some ⟨gl,0,none⟩)),Is (.slice RA n rcap),Is (.int .i64 ((m-1-i:Nat):Int)),Is (.pointer (some pz21)),Is (.slice (ra (ps20.getD (m-1-i) 0)) cc (rc (ps20.getD (m-1-i) 0))),Is (.int .i64 ((ldr cc (Z (m-1-i+1+s)):Nat):Int)),Is (.pointer (some pz22)),Is (.agg #[.bool sz22,.slice Bz22 nz22 cz22]),Is (.pointer (some ⟨gl,0,none⟩)),Is (.pointer (some ⟨gl,0,none⟩)),Is (.pointer (some ⟨gl,0,none⟩)),Is (.slice RA n rcap),Is (.int .i64 ((m-1-i+1+s:Nat):Int)),Is (.pointer (some pz23)),Is (.slice (ra (ps20.getD (m-1-i+1+s) 0)) cc (rc (ps20.getD (m-1-i+1+s) 0))),Is (.int .i64 ((ldr cc (Z (m-1-i+1+s)):Nat):Int)),Is (.pointer (some pz24)),Is (.agg #[.bool sz24,.slice Bz24 nz24 cz24]),T3 (ZR w.heap.size (((stC cc m i s Z) (m-1-i) (ldr cc (Z (m-1-i+1+s))))/((stC cc m i s Z) (m-1-i+1+s) (ldr cc (Z (m-1-i+1+s)))))) (ZR w.heap.size (((stC cc m i s Z) (m-1-i) (ldr cc (Z (m-1-i+1+s))))%((stC cc m i s Z) (m-1-i+1+s) (ldr cc (Z (m-1-i+1+s)))))) (Is (.int .i64 0)),T3 (ZR w.heap.size (((stC cc m i s Z) (m-1-i) (ldr cc (Z (m-1-i+1+s))))/((stC cc m i s Z) (m-1-i+1+s) (ldr cc (Z (m-1-i+1+s)))))) (ZR w.heap.size (((stC cc m i s Z) (m-1-i) (ldr cc (Z (m-1-i+1+s))))%((stC cc m i s Z) (m-1-i+1+s) (ldr cc (Z (m-1-i+1+s)))))) (Is (.int .i64 0)),ZR w.heap.size (((stC cc m i s Z) (m-1-i) (ldr cc (Z (m-1-i+1+s))))/((stC cc m i s Z) (m-1-i+1+s) (ldr cc (Z (m-1-i+1+s))))),ZR w.heap.size (((stC cc m i s Z) (m-1-i) (ldr cc (Z (m-1-i+1+s))))%((stC cc m i s Z) (m-1-i+1+s) (ldr cc (Z (m-1-i+1+s))))),Is (.int .i64 0),PR ws.heap.size 41 [F0,S0],PR ws.heap.size 41 [F0,S0]] [[],[0],[1],[2],[],[3,4],[5],[],[6,7],[8],[],[10],[11],[12],[],[13,14],[15],[],[16,17],[18],[9,19],[20],[21],[21],[21],[],[]] [[],[0],[0,1],[0,1,2],[],[0,1,2,3,4],[0,1,2,3,4,5],[],[0,1,2,3,4,5,6,7],[0,1,2,3,4,5,6,7,8],[],[10],[10,11],[10,11,12],[],[10,11,12,13,14],[10,11,12,13,14,15],[],[10,11,12,13,14,15,16,17],[10,11,12,13,14,15,16,17,18],[0,1,2,3,4,5,6,7,8,9,10,11,12,13,14,15,16,17,18,19],[0,1,2,3,4,5,6,7,8,9,10,11,12,13,14,15,16,17,18,19,20],[0,1,2,3,4,5,6,7,8,9,10,11,12,13,14,15,16,17,18,19,20,21],[0,1,2,3,4,5,6,7,8,9,10,11,12,13,14,15,16,17,18,19,20,21],[0,1,2,3,4,5,6,7,8,9,10,11,12,13,14,15,16,17,18,19,20,21],[],[],[0,1,2,3,4,5,6,7,8,9,10,11,12,13,14,15,16,17,18,19,20,21,22,25,26],[0,1,2,3,4,5,6,7,8,9,10,11,12,13,14,15,16,17,18,19,20,21,22,23,25,26,27],[0,1,2,3,4,5,6,7,8,9,10,11,12,13,14,15,16,17,18,19,20,21,22,23,24,25,26,27,28]] rfl rfl ⟨fun _ _ h=>PR.old h,fun _ _ h=>PR.old h,trivial⟩
     (obs_cons rfl rfl (hob rfl rfl ?_) (obs_cons rfl rfl (hob rfl rfl ?_) (obs_cons rfl rfl (hob rfl rfl ?_) (obs_cons rfl rfl (hob rfl rfl ?_) (obs_cons rfl rfl (hob rfl rfl ?_) (obs_cons rfl rfl (hob rfl rfl ?_) (obs_cons rfl rfl (hob rfl rfl ?_) (obs_cons rfl rfl (hob rfl rfl ?_) (obs_cons rfl rfl (hob rfl rfl ?_) (obs_cons rfl rfl (hob rfl rfl ?_) (obs_cons rfl rfl (hob rfl rfl ?_) (obs_cons rfl rfl (hob rfl rfl ?_) (obs_cons rfl rfl (hob rfl rfl ?_) (obs_cons rfl rfl (hob rfl rfl ?_) (obs_cons rfl rfl (hob rfl rfl ?_) (obs_cons rfl rfl (hob rfl rfl ?_) (obs_cons rfl rfl (hob rfl rfl ?_) (obs_cons rfl rfl (hob rfl rfl ?_) (obs_cons rfl rfl (hob rfl rfl ?_) (obs_cons rfl rfl (hob rfl rfl ?_) (obs_cons rfl rfl (hob rfl rfl ?_) (obs_cons rfl rfl (hob rfl rfl ?_) (obs_float rfl rfl (fob rfl ?_) (obs_float rfl rfl (fob rfl ?_) (obs_float rfl rfl (fob rfl ?_) (obs_cons rfl rfl (hobA rfl ?_) (obs_cons rfl rfl (hobA rfl ?_) obs_nil))))))))))))))))))))))))))) ?_
    · 
     intro v33 e34
     have hw2:UpS (LS n gl gs gr RA ra) w v33:=hw1.ext e34
     refine deps_nil (mv 1 rfl ?_)
     exact pi_done rfl (Ext.refl _) rfl
    · 
     intro v35 e36
     have hw2:UpS (LS n gl gs gr RA ra) w v35:=hw1.ext e36
     refine dk rfl rfl (deps_nil (pf gl 0 rfl (by kernel_rfl) ?_))
     exact pi_done rfl (Ext.refl _) rfl
    · 
     intro v42 e43
     have hw2:UpS (LS n gl gs gr RA ra) w v42:=hw1.ext e43
     refine dk rfl rfl (deps_nil (pf gl 0 rfl (by kernel_rfl) ?_))
     exact pi_done rfl (Ext.refl _) rfl
    · 
     intro v49 e50
     have hw2:UpS (LS n gl gs gr RA ra) w v49:=hw1.ext e50
     refine dk rfl rfl (deps_nil (wl_load rfl rfl (load_cell cellRows (hP20.ext e50).bl rfl) (by decide) ?_))
     exact pi_done rfl (Ext.refl _) rfl
    · 
     intro v56 e57
     have hw2:UpS (LS n gl gs gr RA ra) w v56:=hw1.ext e57
     refine deps_nil (mv 1 rfl ?_)
     exact pi_done rfl (Ext.refl _) rfl
    · 
     intro v58 e59
     have hw2:UpS (LS n gl gs gr RA ra) w v58:=hw1.ext e59
     refine dk rfl rfl (dk rfl rfl (deps_nil (wl_idx rfl rfl rfl unRows szInts (m-1-i) rfl (by omega) pz21 hpz21 (by decide) ?_)))
     exact pi_done rfl (Ext.refl _) rfl
    · 
     intro v70 e71
     have hw2:UpS (LS n gl gs gr RA ra) w v70:=hw1.ext e71
     refine dk rfl rfl (deps_nil (wl_load rfl rfl (load_cell1 cellInts (e71.cell hcz21)) (by decide) ?_))
     exact pi_done rfl (Ext.refl _) rfl
    · 
     intro v77 e78
     have hw2:UpS (LS n gl gs gr RA ra) w v77:=hw1.ext e78
     refine deps_nil (mv 1 rfl ?_)
     exact pi_done rfl (Ext.refl _) rfl
    · 
     intro v79 e80
     have hw2:UpS (LS n gl gs gr RA ra) w v79:=hw1.ext e80
     refine dk rfl rfl (dk rfl rfl (deps_nil (wl_idx rfl rfl rfl elemI aggInt.size (ldr cc (Z (m-1-i+1+s))) rfl (by omega) pz22 hpz22 (by decide) ?_)))
     exact pi_done rfl (Ext.refl _) rfl
    · 
     intro v91 e92
     have hw2:UpS (LS n gl gs gr RA ra) w v91:=hw1.ext e92
     refine dk rfl rfl (deps_nil (wl_load rfl rfl (ldz22 _ e92 _ _ aggInt) (by decide) ?_))
     exact pi_done rfl (Ext.refl _) rfl
    · 
     intro v98 e99
     have hw2:UpS (LS n gl gs gr RA ra) w v98:=hw1.ext e99
     refine deps_nil (mv 1 rfl ?_)
     exact pi_done rfl (Ext.refl _) rfl
    · 
     intro v100 e101
     have hw2:UpS (LS n gl gs gr RA ra) w v100:=hw1.ext e101
     refine dk rfl rfl (deps_nil (pf gl 0 rfl (by kernel_rfl) ?_))
     exact pi_done rfl (Ext.refl _) rfl
    · 
     intro v107 e108
     have hw2:UpS (LS n gl gs gr RA ra) w v107:=hw1.ext e108
     refine dk rfl rfl (deps_nil (pf gl 0 rfl (by kernel_rfl) ?_))
     exact pi_done rfl (Ext.refl _) rfl
    · 
     intro v114 e115
     have hw2:UpS (LS n gl gs gr RA ra) w v114:=hw1.ext e115
     refine dk rfl rfl (deps_nil (wl_load rfl rfl (load_cell cellRows (hP20.ext e115).bl rfl) (by decide) ?_))
     exact pi_done rfl (Ext.refl _) rfl
    · 
     intro v121 e122
     have hw2:UpS (LS n gl gs gr RA ra) w v121:=hw1.ext e122
     refine deps_nil (mv 1 rfl ?_)
     exact pi_done rfl (Ext.refl _) rfl
    · 
     intro v123 e124
     have hw2:UpS (LS n gl gs gr RA ra) w v123:=hw1.ext e124
     refine dk rfl rfl (dk rfl rfl (deps_nil (wl_idx rfl rfl rfl unRows szInts (m-1-i+1+s) rfl (by omega) pz23 hpz23 (by decide) ?_)))
     exact pi_done rfl (Ext.refl _) rfl
    · 
     intro v135 e136
     have hw2:UpS (LS n gl gs gr RA ra) w v135:=hw1.ext e136
     refine dk rfl rfl (deps_nil (wl_load rfl rfl (load_cell1 cellInts (e136.cell hcz23)) (by decide) ?_))
     exact pi_done rfl (Ext.refl _) rfl
    · 
     intro v142 e143
     have hw2:UpS (LS n gl gs gr RA ra) w v142:=hw1.ext e143
     refine deps_nil (mv 1 rfl ?_)
     exact pi_done rfl (Ext.refl _) rfl
    · 
     intro v144 e145
     have hw2:UpS (LS n gl gs gr RA ra) w v144:=hw1.ext e145
     refine dk rfl rfl (dk rfl rfl (deps_nil (wl_idx rfl rfl rfl elemI aggInt.size (ldr cc (Z (m-1-i+1+s))) rfl (by omega) pz24 hpz24 (by decide) ?_)))
     exact pi_done rfl (Ext.refl _) rfl
    · 
     intro v156 e157
     have hw2:UpS (LS n gl gs gr RA ra) w v156:=hw1.ext e157
     refine dk rfl rfl (deps_nil (wl_load rfl rfl (ldz24 _ e157 _ _ aggInt) (by decide) ?_))
     exact pi_done rfl (Ext.refl _) rfl
    · 
     intro v163 e164
     have hw2:UpS (LS n gl gs gr RA ra) w v163:=hw1.ext e164
     refine dk rfl rfl (dk rfl rfl (deps_nil (wl_call rfl rfl (vs:= [.agg #[.bool sz22,.slice Bz22 nz22 cz22],.agg #[.bool sz24,.slice Bz24 nz24 cz24]]) (by kernel_rfl) (by decide) (g_FloorP hw2.size (zz22.ext e164).zi (zz22.le (Nat.le_trans (hLi _ hJ) (by decide))) (zz24.ext e164).zi (zz24.le (Nat.le_trans (hLk _ hJ) (by decide))) hpv) ?_)))
     rintro _ v175 ⟨xr177,rfl,r177,e176⟩
     refine ret_intro ?_
     have hw3:UpS (LS n gl gs gr RA ra) w v175:=hw2.ext e176
     obtain⟨_,_,_,rfl,⟨s179,A179,n179,c179,rfl,z179⟩,⟨s180,A180,n180,c180,rfl,z180⟩,rfl⟩:=r177
     exact pi_done rfl e176 ⟨_,_,_,rfl,⟨_,_,_,_,rfl,z179⟩,⟨_,_,_,_,rfl,z180⟩,rfl⟩
    · 
     intro v181 e182
     have hw2:UpS (LS n gl gs gr RA ra) w v181:=hw1.ext e182
     refine deps_cons rfl rfl fun x183 y184 h185 e186 f187=>?_
     obtain⟨_,_,_,rfl,⟨s189,A189,n189,c189,rfl,z189⟩,⟨s190,A190,n190,c190,rfl,z190⟩,rfl⟩:=h185
     have z189:=z189.ext f187
     have z190:=z190.ext f187
     refine deps_nil (mv 1 rfl ?_)
     exact pi_done rfl (Ext.refl _) ⟨_,_,_,rfl,⟨_,_,_,_,rfl,z189⟩,⟨_,_,_,_,rfl,z190⟩,rfl⟩
    · 
     intro v191 e192
     have hw2:UpS (LS n gl gs gr RA ra) w v191:=hw1.ext e192
     refine deps_cons rfl rfl fun x193 y194 h195 e196 f197=>?_
     obtain⟨_,_,_,rfl,⟨s199,A199,n199,c199,rfl,z199⟩,⟨s200,A200,n200,c200,rfl,z200⟩,rfl⟩:=h195
     have z199:=z199.ext f197
     have z200:=z200.ext f197
     refine deps_nil ?_
     exact⟨.agg #[.bool s199,.slice A199 n199 c199],rfl,rfl,fun _=>by kernel_rfl,⟨_,_,_,_,rfl,z199⟩⟩
    · 
     intro v201 e202
     have hw2:UpS (LS n gl gs gr RA ra) w v201:=hw1.ext e202
     refine deps_cons rfl rfl fun x203 y204 h205 e206 f207=>?_
     obtain⟨_,_,_,rfl,⟨s209,A209,n209,c209,rfl,z209⟩,⟨s210,A210,n210,c210,rfl,z210⟩,rfl⟩:=h205
     have z209:=z209.ext f207
     have z210:=z210.ext f207
     refine deps_nil ?_
     exact⟨.agg #[.bool s210,.slice A210 n210 c210],rfl,rfl,fun _=>by kernel_rfl,⟨_,_,_,_,rfl,z210⟩⟩
    · 
     intro v211 e212
     have hw2:UpS (LS n gl gs gr RA ra) w v211:=hw1.ext e212
     refine deps_cons rfl rfl fun x213 y214 h215 e216 f217=>?_
     obtain⟨_,_,_,rfl,⟨s219,A219,n219,c219,rfl,z219⟩,⟨s220,A220,n220,c220,rfl,z220⟩,rfl⟩:=h215
     have z219:=z219.ext f217
     have z220:=z220.ext f217
     refine deps_nil ?_
     exact⟨.int .i64 0,rfl,rfl,fun _=>by kernel_rfl,rfl⟩
    · 
     intro v221 e222
     have hw2:UpS (LS n gl gs gr RA ra) w v221:=hw1.ext e222
     refine deps_nil (wl_alloc rfl (z:= .agg #[F0,S0]) (vs:= [F0,S0]) (fun _=>by kernel_rfl) rfl (by decide) fun g223 v224 nb=>?_)
     exact pi_done rfl nb.ext ⟨⟨_,rfl,by rw [←nb.at_];exact e222.size,nb.bk⟩,_,rfl,Nat.le_of_eq nb.at_⟩
    · 
     intro v225 e226
     have hw2:UpS (LS n gl gs gr RA ra) w v225:=hw1.ext e226
     refine deps_nil (wl_alloc rfl (z:= .agg #[F0,S0]) (vs:= [F0,S0]) (fun _=>by kernel_rfl) rfl (by decide) fun g227 v228 nb=>?_)
     exact pi_done rfl nb.ext ⟨⟨_,rfl,by rw [←nb.at_];exact e226.size,nb.bk⟩,_,rfl,Nat.le_of_eq nb.at_⟩
    · 
     intro v229 e230
     have hw2:UpS (LS n gl gs gr RA ra) w v229:=hw1.ext e230
     refine dk rfl rfl (dk rfl rfl (dk rfl rfl (dk rfl rfl (dk rfl rfl (dk rfl rfl (dk rfl rfl (dk rfl rfl (dk rfl rfl (dk rfl rfl (dk rfl rfl (dk rfl rfl (dk rfl rfl (dk rfl rfl ?_)))))))))))))
     refine dk rfl rfl (dk rfl rfl (dk rfl rfl (dk rfl rfl (dk rfl rfl (dk rfl rfl (deps_cons rfl rfl fun x331 y332 h333 e334 f335=>?_))))))
     obtain⟨_,_,_,rfl,⟨s337,A337,n337,c337,rfl,z337⟩,⟨s338,A338,n338,c338,rfl,z338⟩,rfl⟩:=h333
     have z337:=z337.ext f335
     have z338:=z338.ext f335
     refine deps_cons rfl rfl fun x339 y340 h341 e342 f343=>?_
     obtain⟨_,_,_,rfl,⟨s345,A345,n345,c345,rfl,z345⟩,⟨s346,A346,n346,c346,rfl,z346⟩,rfl⟩:=h341
     have z345:=z345.ext f343
     have z346:=z346.ext f343
     refine deps_cons rfl rfl fun x347 y348 h349 e350 f351=>?_
     obtain⟨s352,A352,n352,c352,rfl,z352⟩:=h349
     have z352:=z352.ext f351
     refine deps_cons rfl rfl fun x353 y354 h355 e356 f357=>?_
     obtain⟨s358,A358,n358,c358,rfl,z358⟩:=h355
     have z358:=z358.ext f357
     refine dk rfl rfl (deps_cons rfl rfl fun x364 y365 h366 e367 f368=>?_)
     obtain⟨g369,rfl,ge371,hb370⟩:=h366
     have hb370:=hb370.ext f368
     have q372:gs<g369:=Nat.lt_of_lt_of_le hP20.bs.lt ge371
     have q373:g2<g369:=Nat.lt_of_lt_of_le (ha_g2ws).lt ge371
     have q374:g2<g369:=Nat.lt_of_lt_of_le ha_g2ws.lt ge371
     have ge371:w.heap.size≤g369:=Nat.le_trans hw1.size ge371
     refine deps_cons rfl rfl fun x375 y376 h377 e378 f379=>?_
     obtain⟨g380,rfl,ge382,hb381⟩:=h377
     have hb381:=hb381.ext f379
     have q383:gs<g380:=Nat.lt_of_lt_of_le hP20.bs.lt ge382
     have q384:g2<g380:=Nat.lt_of_lt_of_le (ha_g2ws).lt ge382
     have q385:g2<g380:=Nat.lt_of_lt_of_le ha_g2ws.lt ge382
     have ge382:w.heap.size≤g380:=Nat.le_trans hw1.size ge382
     refine deps_nil ?_
     intro hdist
     have q386:g380≠g369:=fun e=>hdist 26 (by decide) 25 (by decide) (by decide) _ _ rfl rfl _ _ rfl rfl _ (Or.inl rfl) (by rw [e];exact Or.inl rfl)
     clear hdist
     refine wl_stored rfl rfl rfl aggInt rfl hb370 (bq rfl) rfl [.bool s352,.slice A352 n352 c352] rfl fun v387 hb389 u390 hs391=>?_
     have hw3:UpS (LS n gl gs gr RA ra) w v387:=hw2.upd u390 ge371
     have hb393:=(hb381.updN u390 (by omega))
     refine wl_stored rfl rfl rfl aggInt rfl hb393 (bq rfl) rfl [.bool s358,.slice A358 n358 c358] rfl fun v392 hb394 u395 hs396=>?_
     have hw4:UpS (LS n gl gs gr RA ra) w v392:=hw3.upd u395 ge382
     refine mv 1 rfl (wl_nil (eo_np (eo_then (cw_region (mv 3 rfl (lo aggInt (hb389.updN u395 (by omega)) [.bool s352,.slice A352 n352 c352] rfl rfl rfl ?_))))))
     have L397:ln (-(((stC cc m i s Z) (m-1-i) (ldr cc (Z (m-1-i+1+s))))/((stC cc m i s Z) (m-1-i+1+s) (ldr cc (Z (m-1-i+1+s))))))≤68719476736:=(by rw [ln_neg];exact (ln_edivP hpv (hLi _ hJ)))
     refine wl_call rfl rfl (vs:= [.agg #[.bool s352,.slice A352 n352 c352]]) (by kernel_rfl) (by decide) (g_zint_Neg hw4.size ((z352.updT hb370 u390).updT hb393 u395).zi (z352.le (Nat.le_trans (ln_edivP hpv (hLi _ hJ)) (by decide)))) ?_
     rintro _ v398 ⟨xr400,rfl,r400,e399⟩
     refine ret_intro ?_
     have hw5:UpS (LS n gl gs gr RA ra) w v398:=hw4.ext e399
     obtain⟨s401,A401,n401,c401,rfl,z401⟩:=r400
     have hLq:ln (-(((stC cc m i s Z) (m-1-i) (ldr cc (Z (m-1-i+1+s))))/((stC cc m i s Z) (m-1-i+1+s) (ldr cc (Z (m-1-i+1+s))))))≤68719476736:=by rw [ln_neg];exact ln_edivP hpv (hLi _ hJ)
     refine wl_call rfl rfl (vs:= [.pointer (some ⟨gl,0,none⟩),.int .i64 ((m-1-i:Nat):Int),.int .i64 ((m-1-i+1+s:Nat):Int),.agg #[.bool s401,.slice A401 n401 c401]]) (by kernel_rfl) (by decide) (g_ladM_add ((((hP20.ext e230).updT hb370 u390 (fun q=>absurd (hLS _ q) (by have:=ge371;omega))).updT hb393 u395 (fun q=>absurd (hLS _ q) (by have:=ge382;omega))).ext e399).ldr (Nat.le_trans hlb hw5.size) hcc (show m-1-i<n by omega) (show m-1-i+1+s<n by omega) (by omega) z401 hLq (fun b hb=>by rw [←stC_next];exact hS.rowK (by omega) (by omega) (by omega) hK hb)) ?_
     rintro _ v402 ⟨rfl,hl403,us404⟩
     refine ret_intro ?_
     have no405:=((((hP20.ext e230).updT hb370 u390 (fun q=>absurd (hLS _ q) (by have:=ge371;omega))).updT hb393 u395 (fun q=>absurd (hLS _ q) (by have:=ge382;omega))).ext e399).ldr.no64
     have hw6:UpS (LS n gl gs gr RA ra) w v402:=hw5.trans us404
     obtain⟨ps406,Y406,hP406⟩:=(hl403).op
     refine wl_nil (eo_block_normal (eo_then (cw_region (mv 1 rfl (wl_ar rfl rfl rfl (((m-1-i+1+s)+1:Nat):Int) (ai_add (a:=m-1-i+1+s) (b:=1) rfl rfl (by omega)) (by decide) (mv 1 rfl (wl_nil (eo_round (⟨v402,s+1⟩:World×Nat) ⟨hw6,(by omega),hP406.ldr,(((((ha_g2ws.ext e230).updN u390 (by omega)).updN u395 (by omega)).ext e399).upS us404 (fun q=>absurd (hLS _ q) (by have:=ge7;omega)))⟩ (show i-(s+1)<i-s by omega) rfl ⟨rfl,rfl,rfl,rfl,rfl,rfl,rfl,rfl,rfl,rfl,rfl,rfl,rfl,rfl,rfl,rfl,trivial⟩))))))))
   · 
    refine cw_region (mv 2 rfl (wl_cmp rfl rfl rfl false (cb_lt_f (a:=m-1-i+1+s) (b:=m) rfl rfl (by omega)) (by decide) (ne_ (cw_false rfl (cw_exit (eo_thenX (eo_loopX (eo_block_here (eo_block_normal (eo_then (cw_region (mv 1 rfl (wl_ar rfl rfl rfl (((m-(i+1):Nat):Int)-1) (ar_i64s (show ((m-1-i:Nat):Int)-1=((m-(i+1):Nat):Int)-1 by omega) (by omega) (by omega)) (by decide) ?_)))))))))))))
    refine mv 1 rfl (wl_nil (eo_round (⟨ws,i+1⟩:World×Nat) ⟨hw1,(by omega),(hP20.ldr.cong fun a b _ _=>by rw [show s=i by omega];rfl),ha_g2ws⟩ (show m-(i+1)<m-i by omega) rfl ⟨rfl,rfl,rfl,rfl,rfl,rfl,rfl,rfl,rfl,rfl,rfl,trivial⟩))
  · 
   refine cw_region (mv 1 rfl (wl_cmp rfl rfl rfl false (ci_ge_f (by omega)) (by decide) (ne_ (cw_false rfl (cw_exit (eo_thenX (eo_loopX (eo_block_here (eo_end [] rfl trivial ?_)))))))))
   exact⟨rfl,hP19.ldr.cong (fun a b _ _=>by rw [show i=m by omega];rfl),hw1⟩
theorem extI_end {x y:Int}:∀(n:Nat) (r0 r1 m0 m1:Int),r1.natAbs≤n→ExtI x y r0 r1 m0 m1→∃r a b,ExtI x y r 0 a b:=by
 intro n
 induction n with
 | zero=>
  intro r0 r1 m0 m1 h hI
  obtain rfl:r1=0:=by omega
  exact⟨_,_,_,hI⟩
 | succ n ih=>
  intro r0 r1 m0 m1 h hI
  by_cases hr:r1=0
  ·subst hr;exact⟨_,_,_,hI⟩
  ·exact ih _ _ _ _ (by have:=tmod_abs (x:=r0) hr;omega) (hI.step hr)
theorem bez_ex (x y:Int):∃u v,Bez x y u v:=by
 by_cases hy:y=0
 ·exact⟨_,_,Bez.ofZero hy⟩
 ·obtain⟨r,a,b,hI⟩:=extI_end _ _ _ _ _ (Nat.le_refl _) (ExtI.init (x:=x) hy)
  exact⟨_,_,(hI.done hy rfl).2.2.2.2.2⟩
theorem Bez.ln_u {x y u v:Int}{N:Nat}(h:Bez x y u v) (_hx:ln x≤N) (hy:ln y≤N):ln u≤N+1:=by
 by_cases h0:y=0
 ·rw [(h.zero h0).1]
  refine Nat.le_trans (ln_w1 (x:=x.sign) ?_ ?_) (by omega) <;> (rcases Int.lt_trichotomy x 0 with h | h | h <;> simp [Int.sign_eq_neg_one_of_neg,Int.sign_eq_one_of_pos,h])
 ·refine Nat.le_trans (ln_mono (y:=y) ?_) (Nat.le_succ_of_le hy)
  have h1:=h.lo h0
  have h2:=h.hi h0
  have h3:0<Int.gcd x y:=Int.gcd_pos_of_ne_zero_right x h0
  have h4:u*1≤u*(Int.gcd x y:Int):=Int.mul_le_mul_of_nonneg_left (by omega) h1
  omega
theorem Bez.ln_v {x y u v:Int}{N:Nat}(h:Bez x y u v) (hx:ln x≤N) (hy:ln y≤N):ln v≤N+1:=by
 by_cases h0:y=0
 ·rw [(h.zero h0).2,ln_zero];omega
 ·refine Nat.le_trans (ln_mono (y:=x.natAbs+1) ?_) (Nat.le_trans (ln_add (a:=N) (b:=1) (by rw [ln_abs];exact hx) (by rw [ln_one];exact Nat.le_refl _)) ?_)
  ·have h1:=h.lo h0
   have h2:=h.hi h0
   have h3:0<Int.gcd x y:=Int.gcd_pos_of_ne_zero_right x h0
   have e:=h.eq
   have h4:u*1≤u*(Int.gcd x y:Int):=Int.mul_le_mul_of_nonneg_left (by omega) h1
   have h5:u.natAbs≤y.natAbs:=by omega
   have hgy:Int.gcd x y≤y.natAbs:=Nat.le_of_dvd (by omega) (Int.gcd_dvd_natAbs_right x y)
   have h6:(y*v).natAbs≤(x.natAbs+1)*y.natAbs:=by
    have e2:y*v=Int.gcd x y-x*u:=by omega
    have h7:(x*u).natAbs≤x.natAbs*y.natAbs:=by rw [Int.natAbs_mul];exact Nat.mul_le_mul_left _ h5
    rw [e2,Nat.add_mul,Nat.one_mul]
    omega
   rw [Int.natAbs_mul,Nat.mul_comm] at h6
   have h8:=Nat.le_of_mul_le_mul_right h6 (by omega)
   omega
  ·refine Nat.le_of_eq ?_
   have:1≤N:=by
    refine Nat.pos_of_ne_zero fun hN=>h0 ?_
    have h1:ln y=0:=by omega
    have:=len_wd_zero.1 (show (wd y.natAbs).length=0 from h1)
    omega
   omega
noncomputable def bzu (x y:Int):Int:=Classical.choose (bez_ex x y)
noncomputable def bzv (x y:Int):Int:=Classical.choose (Classical.choose_spec (bez_ex x y))
theorem bzs (x y:Int):Bez x y (bzu x y) (bzv x y):=Classical.choose_spec (Classical.choose_spec (bez_ex x y))
theorem Bez.uniq {x y u v u' v':Int}(h:Bez x y u v) (h':Bez x y u' v'):u=u'∧v=v':=by
 by_cases hy:y=0
 ·obtain⟨a,b⟩:=h.zero hy
  obtain⟨c,d⟩:=h'.zero hy
  exact⟨by rw [a,c],by rw [b,d]⟩
 ·have hg:=Int.gcd_pos_of_ne_zero_right x hy
  have h1:=h.eq
  have h2:=h'.eq
  have h3:=h.lo hy
  have h4:=h'.lo hy
  have h5:=h.hi hy
  have h6:=h'.hi hy
  have hd:y∣u*(Int.gcd x y:Int)-u'*(Int.gcd x y:Int):=by
   refine⟨u*v'-u'*v,?_⟩
   generalize (Int.gcd x y:Int)=g at*
   have e:u*g-u'*g=u*(x*u'+y*v')-u'*(x*u+y*v):=by rw [h1,h2]
   rw [e];grind
  have h7:0≤u*(Int.gcd x y:Int):=Int.mul_nonneg h3 (by omega)
  have h8:0≤u'*(Int.gcd x y:Int):=Int.mul_nonneg h4 (by omega)
  have hz:=Int.eq_zero_of_dvd_of_natAbs_lt_natAbs hd (by omega)
  have hu:u=u':=Int.eq_of_mul_eq_mul_right (show (Int.gcd x y:Int)≠0 by omega) (by omega)
  subst hu
  exact⟨rfl,Int.eq_of_mul_eq_mul_left hy (by omega)⟩
theorem Bez.eqs {x y u v:Int}(h:Bez x y u v):u=bzu x y∧v=bzv x y:=h.uniq (bzs x y)
noncomputable def Ebz (x y:Int):Int×Int:=(bzu x y,bzv x y)
theorem Ebz_ok:BzE Ebz:=fun x y=>(bzs x y).eq
theorem g_ExtM {w:World}{sa:Bool}{Aa:Option Addr}{na ca:Nat}{x:Int}{sb:Bool}{Ab:Option Addr}{nb cb:Nat}{y:Int}{b:Nat}(hb:b≤w.heap.size) (hx:Zi w sa Aa na ca x) (la:na≤17179869184) (hy:Zi w sb Ab nb cb y) (lb:nb≤17179869184):
  Calls Tryz.prog 106 #[.agg #[.bool sa,.slice Aa na ca],.agg #[.bool sb,.slice Ab nb cb]] w (Gv w (T3 (ZR b (Int.gcd x y:Int)) (ZR b (Ebz x y).1) (ZR b (Ebz x y).2))):=
 (g_bezout_Ext hb hx la hy lb).mono fun _ _ ⟨u,v,h,v0,h1,h2,h3⟩=>⟨v0,h1,(by obtain⟨rfl,rfl⟩:=h.eqs;exact h2),h3⟩
def mtX (k q j:Nat) (Z:Mx):Mx:=adR q k (-(Z q j/Z k j)) Z
section
variable {c k q j S B:Nat}{Z:Mx}
theorem mtX_k (h:k≠q):mtX k q j Z k=Z k:=adR_ne _ _ _ h
theorem mtX_q (b:Nat):mtX k q j Z q b=Z q b+ -(Z q j/Z k j)*Z k b:=adR_at _ _ _ _ _
theorem mtX_j:mtX k q j Z q j=Z q j%Z k j:=by rw [mtX_q,fl_mod]
theorem meetF_z {E:Int→Int→Int×Int}(h:Z q j%Z k j=0):meetF E k q j Z=mtX k q j Z:=by
 unfold meetF;rw [if_pos (by rw [fl_mod];exact h)];rfl
theorem meetF_nz {E:Int→Int→Int×Int}(hkq:k≠q) (h:Z q j%Z k j≠0):meetF E k q j Z=mxR k q (E (mtX k q j Z k j) (mtX k q j Z q j)).1 (E (mtX k q j Z k j) (mtX k q j Z q j)).2
  (-((mtX k q j Z q j).tdiv (Int.gcd (mtX k q j Z k j) (mtX k q j Z q j):Int))) ((mtX k q j Z k j).tdiv (Int.gcd (mtX k q j Z k j) (mtX k q j Z q j):Int)) (mtX k q j Z):=by
 unfold meetF
 rw [if_neg (by rw [fl_mod];exact h),mtX_k hkq,mtX_q]
 rfl
structure Szm (c k q j S B:Nat) (Z:Mx):Prop where
 ne:k≠q
 jc:j<c
 pos:0<Z k j
 kB:∀b,b<c→ln (Z k b)≤B
 qS:∀b,b<c→ln (Z q b)≤S
theorem Szm.ad (h:Szm c k q j S B Z){b:Nat}(hb:b<c):ln (Z q b+ -(Z q j/Z k j)*Z k b)≤S+B+1:=by
 have h2:=ln_edivP h.pos (h.qS j h.jc)
 rw [←ln_neg] at h2
 have h3:=ln_add (h.qS b hb) (ln_mul h2 (h.kB b hb))
 omega
theorem Szm.xk (h:Szm c k q j S B Z){b:Nat}(hb:b<c):ln (mtX k q j Z k b)≤B:=by rw [mtX_k h.ne];exact h.kB b hb
theorem Szm.xq (h:Szm c k q j S B Z){b:Nat}(hb:b<c):ln (mtX k q j Z q b)≤S+B+1:=by rw [mtX_q];exact h.ad hb
theorem Szm.v (h:Szm c k q j S B Z):ln (mtX k q j Z q j)≤B:=by rw [mtX_j];exact ln_emodP h.pos (h.kB j h.jc)
theorem Szm.p (h:Szm c k q j S B Z):ln (mtX k q j Z k j)≤B:=h.xk h.jc
theorem Szm.x1 (h:Szm c k q j S B Z):ln (Ebz (mtX k q j Z k j) (mtX k q j Z q j)).1≤B+1:=(bzs _ _).ln_u h.p h.v
theorem Szm.x2 (h:Szm c k q j S B Z):ln (Ebz (mtX k q j Z k j) (mtX k q j Z q j)).2≤B+1:=(bzs _ _).ln_v h.p h.v
theorem Szm.x3 (h:Szm c k q j S B Z):ln (-((mtX k q j Z q j).tdiv (Int.gcd (mtX k q j Z k j) (mtX k q j Z q j):Int)))≤B+1:=by rw [ln_neg];exact Nat.le_trans (ln_tdiv _ _) (Nat.le_succ_of_le h.v)
theorem Szm.x4 (h:Szm c k q j S B Z):ln ((mtX k q j Z k j).tdiv (Int.gcd (mtX k q j Z k j) (mtX k q j Z q j):Int))≤B+1:=Nat.le_trans (ln_tdiv _ _) (Nat.le_succ_of_le h.p)
theorem Szm.lin (h:Szm c k q j S B Z){x y:Int}(hx:ln x≤B+1) (hy:ln y≤B+1){b:Nat}(hb:b<c):ln (x*mtX k q j Z k b+y*mtX k q j Z q b)≤S+2*B+4:=by
 have h1:=ln_add (ln_mul hx (h.xk hb)) (ln_mul hy (h.xq hb))
 have h2:=h.qS b hb
 omega
theorem Szm.lin1 (h:Szm c k q j S B Z){y:Int}(hy:ln y≤B+1){b:Nat}(hb:b<c):ln (y*mtX k q j Z q b)≤S+2*B+4:=by
 have h1:=ln_mul hy (h.xq hb)
 omega
end
end Go.Proofs.YtnpbbknemflpnaaGreat
