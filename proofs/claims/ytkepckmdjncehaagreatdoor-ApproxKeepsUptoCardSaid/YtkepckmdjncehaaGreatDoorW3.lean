/- Parts Ref1d, Ref3, Ref3b, Ref3c, Ref3d, Ref5, Rxd, Rt, Ru, Rxe, Rv, Rw, Law4, Law4t, Grp2, Strc, Own0, Own, Ref4, joined. -/
import Derived.Test.YtkepckmdjncehaaGreatDoorW2
import Derived.Laws.Slices

open Go renaming Addr → aC, Calls → aO, Oper → aX, Operand → cS, Program → cD, TypeId → aT, Value → aH, World → a6
open Go.Instr renaming makeSlice → rB
open Int renaming toNat_natCast → gV
open List renaming drop_eq_getElem_cons → m4, drop_zero → gU, getD_eq_getElem?_getD → bC, getElem?_drop → oK, getElem?_eq_getElem → cJ, getElem?_eq_none → kM, getElem?_map → kK, getElem?_take → kJ, getElem_mem → mI, length_append → cL, length_drop → cV, length_eq_zero_iff → pU, length_take → bJ, map_take → k5, mem_of_mem_drop → gK, mem_of_mem_take → l5, replicate → bP, take_append_drop → pS
open Nat renaming add_assoc → j0, add_mul → dX, add_zero → dN, div_add_mod → iA, div_eq_of_lt → gT, div_le_self → fI, div_lt_iff_lt_mul → k0, div_lt_self → jZ, le_refl → b8, le_trans → aG, lt_of_le_of_lt → iH, lt_of_lt_of_le → dF, min_eq_left → fT, mod_add_div → jY, mod_eq_of_lt → fG, mod_lt → eO, mul_add → cT, mul_add_div → nH, mul_add_mod → wN, mul_assoc → bH, mul_comm → bY, mul_le_mul → jQ, mul_le_mul_left → eF, mul_le_mul_right → eA, mul_one → cI, mul_pos → fS, mul_right_comm → kH, mul_zero → iG, pow_add → bX, pow_le_pow_right → dU, pow_pos → eP, pow_succ → cB, zero_add → f9, zero_le → bW, zero_mul → iZ
open Go.Next renaming value → fZ
open Option.some renaming injEq → fL
open Or renaming inl → cE, inr → bR
open Go.Sem renaming run_bind → cK
open Go.Proofs.Tryz renaming prog → aF
open Go.Value renaming int → bV, slice → wK
open Go.World renaming block_lt_of_cell? → tZ
open Go.World.grownBy renaming refl → EE
namespace Go.Proofs.YtkepckmdjncehaaGreatDoor
variable {A A0 B C D PA:Option aC}{N R X Y Z ac an b base c c' cap cd d f g i ip j k lb m m' n n' p pb pn q r rest s u unit v width x y z:Nat}{P:cD}{T T' e t ty:aT}{a bs ds es l l' l0 ld lq lr pre xs ys zs:List Nat}{af:Array Edge}{gd:Option (Nat×Bool)}{high low:Option aH}{ops:Array aX}{us:List aH}
section
open Go.RowKit
theorem mM (w:a6):(sizeOf 3).run aF w= .ok 1 w:=by kernel_rfl
theorem zY (w:a6):(isAgg 3).run aF w= .ok false w:=by kernel_rfl
theorem nR:Tryz.prog.underlying 140=some (.slice 3):=Tryz.underlying140
theorem Ri.at (hb:0<b){w:a6}(h:Ri b w A n c xs)(hi:i<n):
  ∃p,A.map (·.add (i*1))=some p∧w.cell? p=some (.int .i64 ((xs.getD i 0:Nat):Int))∧xs.getD i 0<b:=by
 obtain⟨a,x,rfl,hk,hlt,hc⟩:=h.get hb hi
 refine⟨a.add i,by rw [cI];rfl,?_,by rw [hk.out];exact hlt⟩
 rw [hk.out];exact hc
theorem Ri.updL {w w':a6}(h:Ri b w A n c xs)(e:Upd g w w')(hne:0<c→∀a,A=some a→a.block≠g):Ri b w' A n c xs:=
 ⟨⟨h.rv.len,h.rv.le,h.rv.max,fun i hi=>by
  obtain⟨a,ha,hc⟩:=h.rv.get i hi
  exact⟨a,ha,e.cell hc (by rw [pJ];exact hne (by have:=h.rv.le;omega) a ha)⟩,fun a ha hc=>dF (h.rv.blk a ha hc) e.size⟩,h.wf⟩
def SD (m:Nat)(v:aH)(w:a6):Prop:=∃A k c,v= .slice A k c∧Ri 65536 w A k c (db 65536 m)
theorem KZ {w:a6}(e:Ending)(w':a6)(h:wJ x y w e w'):Gv w (Is (.int .i64 (dH x y))) e w':=by
 obtain⟨c,h1,_,_,rfl,h2⟩:=h
 exact⟨_,rfl,(show bV .i64 c=_ by rw [h1.out]),h2⟩
theorem yP {w:a6}(h:Rd w A n c xs):(db 65536 (nv xs)).length≤4*n:=by
 have:=pD h.wf
 rwa [h.len] at this
theorem yW {w:a6}(hx:Rd w A n c xs)(hl:n≤274877906943:=by omega):aO aF 177 #[.slice A n c] w (Gv w (SD (nv xs))):=
 (qB hx hl).mono fun e w' h=>by
  obtain⟨A,n,c,rfl,_,h2,_,h4⟩:=h
  exact⟨_,rfl,⟨A,n,c,rfl,h2⟩,h4⟩
theorem L9 {w:a6}(hb:b≤w.heap.size)(hx:Ri 65536 w A n c ds)(hl:n≤1099511627775):aO aF 179 #[.slice A n c] w (Gv w (WR b (nb 65536 ds))):=(uZ hx hl).mono (gw hb)
theorem YR {w:a6}(hx:Ri 65536 w A n c (db 65536 x))(hl:n≤1099511627776)(hy:Ri 65536 w B m d (db 65536 y))(hl':m≤1099511627776):
  aO aF 186 #[.slice A n c,.slice B m d] w (Gv w (Is (.int .i64 (dH x y)))):=(I9 hx hl hy hl').mono KZ
theorem L7 {w:a6}(hx:Ri 65536 w A n c ds)(hl:n≤1099511627776)(hi:i≤4398046511104):aO aF 187 #[.slice A n c,.int .i64 (i:Int)] w (Gv w (Is (.int .i64 ((ds.getD i 0:Nat):Int)))):=
 (C4 hx hl (i:=(i:Int))).mono fun e w' h=>by
  obtain⟨x,h1,_,rfl,rfl⟩:=h
  have h2:=h1.out
  rw [gV] at h2
  exact⟨_,rfl,(show bV .i64 (x:Int)=_ by rw [h2]),Ext.refl _⟩
theorem G6 {t t':Nat}(hl:i<l.length)(hd:i<ds.length)(h:nb 65536 (l.take i)+nb 65536 (es.take i)=nb 65536 (ds.take i)+65536^i*t)(hs:d+es.getD i 0+t=ds.getD i 0+65536*t'):
  nb 65536 ((l.set i d).take (i+1))+nb 65536 (es.take (i+1))=nb 65536 (ds.take (i+1))+65536^(i+1)*t':=by
 have he:nb 65536 (es.take (i+1))=nb 65536 (es.take i)+65536^i*es.getD i 0:=by
  by_cases h:i<es.length
  ·exact iL _ _ _ h
  ·rw [List.take_of_length_le (by omega),List.take_of_length_le (by omega),bC,kM (by omega)]
   rfl
 rw [qM 65536 hl,he,iL 65536 ds i hd,cB,bH]
 have e:65536^i*(d+es.getD i 0+t)=65536^i*(ds.getD i 0+65536*t'):=by rw [hs]
 simp only [cT] at e
 omega
theorem QP {t:Nat}(hds:ds=db 65536 x)(hes:es=db 65536 y)(hxy:y≤x)(hn:ds.length=n)(hl:l.length=n)(hw:Wfb 65536 l)(h:nb 65536 (l.take n)+nb 65536 (es.take n)=nb 65536 (ds.take n)+65536^n*t):nb 65536 l=x-y:=by
 have h1:es.length≤n:=by rw [←hn,hds,hes];exact CU fP hxy
 rw [List.take_of_length_le (by omega),List.take_of_length_le h1,List.take_of_length_le (by omega),hds,hes,iB fP,iB fP] at h
 have h2:=nX hw
 rw [hl] at h2
 have h3:t=0:=by
  refine Nat.eq_zero_of_not_pos fun hp=>?_
  have h3:65536^n*1≤65536^n*t:=eF _ hp
  omega
 rw [h3] at h
 omega
theorem a0W (h:y≤x):dY .lss (dH x y) 0=some false:=by
 have e:¬dH x y<0:=fun e=>by have:=pH.1 e;omega
 exact mB
theorem a01 (h:y≤x):y≤x:=h
theorem Bk.ri0 {w:a6}(h:Bk w g t (l.map I6))(hw:Wfb 65536 l)(hl:l.length=N)(hN:N≤9223372036854775807):Ri 65536 w (some ⟨g,0,none⟩) N N l:=by
 have:=h.ri hw (o:=0) (n:=N) (cap:=N) (b8 _) (by omega) (by rw [eY];exact hN)
 rwa [gU,List.take_of_length_le (Nat.le_of_eq hl)] at this
set_option maxHeartbeats 4000000 in
theorem TT {w:a6}(hx:Rd w A n cap xs)(hln:n≤137438953472)(hy:Rd w D m cd ys)(hlm:m≤137438953472)(hle:nv ys≤nv xs):
    aO aF 130 #[.slice A n cap,.slice D m cd] w (Gv w (T2 (WR w.heap.size (nv xs-nv ys)) (Is (.int .i64 0)))):=by
 refine bK Tryz.func130 rfl (n:=49) rfl (bq rfl) (args:= [.slice A n cap,.slice D m cd]) (bE [(0,.slice A n cap),(1,.slice D m cd)] ⟨rfl,rfl,trivial⟩ (sr (mv 2 rfl (a0 (sr (mv 1 rfl (cl (vs:= [.slice A n cap]) (Ext.refl w) (yW hx) rfl (by kernel_rfl) fun xr3 v1 r3 e2 hw1=>?_)))))))
 obtain⟨A4,n4,c4,rfl,rd4⟩:=r3
 refine mv 1 rfl (a0 (sr (mv 1 rfl (cl (vs:= [.slice D m cd]) hw1 (yW (hy.ext e2)) rfl (by kernel_rfl) fun xr7 v5 r7 e6 hw2=>?_))))
 obtain⟨A8,n8,c8,rfl,rd8⟩:=r7
 refine mv 1 rfl (a0 (aA (aA ?_)))
 have hll6:=rd4.len
 have hlb6:=yP hx
 have hll7:=rd8.len
 have hlb7:=yP hy
 refine a7 (mv 2 rfl (cl (vs:= [.slice A4 n4 c4,.slice A8 n8 c8]) hw2 (YR (rd4.ext e6) (by omega) rd8 (by omega)) rfl (by kernel_rfl) fun xr11 v9 r11 e10 hw3=>?_))
 obtain rfl:=r11
 refine aB rfl rfl rfl false (a0W hle) (a0 (aI rfl (aN (aD (aA ?_)))))
 obtain⟨ds,hds⟩:∃ds,ds=(db 65536 (nv xs)):=⟨_,rfl⟩
 rw [←hds] at rd4 hll6 hlb6
 have hwds:=rd4.wf
 obtain⟨es,hes⟩:∃es,es=(db 65536 (nv ys)):=⟨_,rfl⟩
 rw [←hes] at rd8 hll7 hlb7
 have hwes:=rd8.wf
 refine a7 (mv 1 rfl (pu (v:= .int .i64 n4) rfl (l7 rfl (k:=n4) rfl rfl rfl nR mX rfl fun g12 v13 hg14 hb15 e16=>?_)))
 rw [uY] at hb15
 have ge17:w.heap.size≤g12:=by rw [←hg14];exact hw3.size
 have ne19:0<cap→∀a,A=some a→a.block≠g12:=fun hc a ha=>by have:=((hx.ext (e2.trans (e6.trans e10)))).rv.blk a ha hc;omega
 have ne20:0<cd→∀a,D=some a→a.block≠g12:=fun hc a ha=>by have:=((hy.ext (e2.trans (e6.trans e10)))).rv.blk a ha hc;omega
 have ne21:0<c4→∀a,A4=some a→a.block≠g12:=fun hc a ha=>by have:=((rd4.ext (e6.trans e10))).rv.blk a ha hc;omega
 have ne22:0<c8→∀a,A8=some a→a.block≠g12:=fun hc a ha=>by have:=((rd8.ext e10)).rv.blk a ha hc;omega
 clear hg14
 have hw4:=hw3.trans e16
 refine mv 1 rfl (a0 (sr (mv 1 rfl (a0 (aA (sr (mv 1 rfl (a0 (bG ?_)))))))))
 refine d4 (T:=a6×Nat×Nat×List Nat)
  (fun⟨wr,i,t,l⟩=> [(6,.slice A4 n4 c4),(7,.slice A8 n8 c8),(8,.slice (some ⟨g12,0,none⟩) n4 n4),(9,.int .i64 t),(10,.int .i64 i)])
  (fun⟨wr,i,t,l⟩=>wr)
  (fun⟨wr,i,t,l⟩=>(Ext w wr)∧(i≤n4)∧(t≤1)∧(Bk wr g12 3 (l.map I6))∧(l.length=n4)∧(Wfb 65536 l)∧(nb 65536 (l.take i)+nb 65536 (es.take i)=nb 65536 (ds.take i)+65536^i*t)∧(Ri 65536 wr A4 n4 c4 ds)∧(Ri 65536 wr A8 n8 c8 es))
  (fun⟨wr,i,t,l⟩=>n4-i)
  (⟨v13,0,0,_⟩:a6×Nat×Nat×List Nat) ⟨hw4,bW _,bW _,hb15,(List.length_replicate (n:=n4) (a:=0)),pL _,by simp [nb],(rd4.ext (e6.trans (e10.trans e16))),(rd8.ext (e10.trans e16))⟩ rfl ⟨rfl,rfl,rfl,rfl,rfl,trivial⟩ ?_
 rintro⟨wr,i,t,l⟩ ⟨hw1,hi,ht,hb,hl,hwf,hv,rl6,rl7⟩
 refine cC [(6,.slice A4 n4 c4),(7,.slice A8 n8 c8),(8,.slice (some ⟨g12,0,none⟩) n4 n4),(9,.int .i64 t),(10,.int .i64 i)] wr rfl ⟨rfl,rfl,rfl,rfl,rfl,trivial⟩ (aA (aA ?_))
 by_cases him:i<n4
 · 
  refine a7 (mv 2 rfl (pu (v:= .int .i64 n4) rfl (aB rfl rfl rfl true (dB (a:=i) (b:=n4) rfl rfl) (a0 (aP rfl (aN (aD (aA (bG (aA ?_))))))))))
  have hdb:=iY (b:=65536) hwds i
  have heb:=iY (b:=65536) hwes i
  by_cases hbig:es.getD i 0+t≤ds.getD i 0
  · 
   obtain⟨p23,hp23,hc23,hv23⟩:=(rl6).at (by decide) (i:=i) (by omega)
   refine gR eZ 10 [] [Is (.slice A4 n4 c4),Is (.int .i64 i),Is (.pointer (some p23)),Is (.int .i64 ((ds.getD i 0:Nat):Int)),Is (.slice A8 n8 c8),Is (.int .i64 i),Is (.int .i64 ((es.getD i 0:Nat):Int)),Is (.int .i64 (((ds.getD i 0)-(es.getD i 0):Nat):Int)),Is (.int .i64 t),Is (.int .i64 ((((ds.getD i 0)-(es.getD i 0))-t:Nat):Int))] [[],[],[0,1],[2],[],[],[4,5],[3,6],[],[7,8]] [[],[],[0,1],[0,1,2],[],[],[4,5],[0,1,2,3,4,5,6],[],[0,1,2,3,4,5,6,7,8],[0,1,2,3,4,5,6,7,8,9]] rfl
    (aR rfl rfl (aK rfl rfl ?_) (aR rfl rfl (aK rfl rfl ?_) (aR rfl rfl (aK rfl rfl ?_) (aR rfl rfl (aK rfl rfl ?_) (aR rfl rfl (aK rfl rfl ?_) (aR rfl rfl (aK rfl rfl ?_) (aR rfl rfl (aK rfl rfl ?_) (aR rfl rfl (aK rfl rfl ?_) (aR rfl rfl (aK rfl rfl ?_) (aR rfl rfl (aK rfl rfl ?_) gP)))))))))) ?_
   · 
    exact fun _ _=>aJ (mv 1 rfl (aQ rfl (Ext.refl _) rfl))
   · 
    exact fun _ _=>aJ (mv 1 rfl (aQ rfl (Ext.refl _) rfl))
   · 
    exact fun _ _=>dk rfl rfl (dk rfl rfl (aJ (bT rfl rfl rfl nR mM i rfl p23 hp23 (aQ rfl (Ext.refl _) rfl))))
   · 
    exact fun _ e41=>dk rfl rfl (aJ (aS rfl rfl (cZ zY (e41.cell hc23)) (aQ rfl (Ext.refl _) rfl)))
   · 
    exact fun _ _=>aJ (mv 1 rfl (aQ rfl (Ext.refl _) rfl))
   · 
    exact fun _ _=>aJ (mv 1 rfl (aQ rfl (Ext.refl _) rfl))
   · 
    intro v51 e52
    have hw2:=hw1.trans e52
    refine dk rfl rfl (dk rfl rfl (aJ (cl (vs:= [.slice A8 n8 c8,.int .i64 i]) hw2 (L7 (rl7.ext e52) (by omega) (by omega)) rfl (by kernel_rfl) fun xr65 v63 r65 e64 hw3=>?_)))
    obtain rfl:=r65
    exact aQ rfl e64 rfl
   · 
    exact fun _ _=>dk rfl rfl (dk rfl rfl (aJ (aE rfl rfl rfl (((ds.getD i 0)-(es.getD i 0):Nat):Int) (eR (a:=ds.getD i 0) (b:=es.getD i 0) rfl rfl) (aQ rfl (Ext.refl _) rfl))))
   · 
    exact fun _ _=>aJ (mv 1 rfl (aQ rfl (Ext.refl _) rfl))
   · 
    exact fun _ _=>dk rfl rfl (dk rfl rfl (aJ (aE rfl rfl rfl ((((ds.getD i 0)-(es.getD i 0))-t:Nat):Int) (eR (a:=(ds.getD i 0)-(es.getD i 0)) (b:=t) rfl rfl) (aQ rfl (Ext.refl _) rfl))))
   · 
    intro v92 e93
    have hw2:=hw1.trans e93
    refine dk rfl rfl (dk rfl rfl (dk rfl rfl (dk rfl rfl (dk rfl rfl (dk rfl rfl (dk rfl rfl (dk rfl rfl (dk rfl rfl (dk rfl rfl (aJ (mv 1 rfl (aU (gQ ?_)))))))))))))
    refine aD (sr (mv 1 rfl (a0 (aA (sr (mv 1 rfl (aB rfl rfl rfl false (cX (a:=((ds.getD i 0)-(es.getD i 0))-t) (b:=0) rfl rfl) (a0 (aI rfl (aN (aD (a7 (mv 1 rfl ?_)))))))))))))
    refine mv 2 rfl (bT rfl rfl rfl nR mM i rfl ⟨g12,i,none⟩ (dP _ _) ?_)
    have hb145:=(hb.ext e93)
    refine eB rfl rfl rfl mM rfl hb145 (fK (by rw [hl];omega)) rfl ((l.set i (((ds.getD i 0)-(es.getD i 0))-t)).map I6) (qP _ _ _) fun v144 hb146 u147 hs148=>?_
    have hw3:=u147.ext hw2 ge17
    refine aU (cA (aD (a7 (mv 1 rfl (aE rfl rfl rfl ((i+1:Nat):Int) (bF (a:=i) (b:=1) rfl rfl) (mv 1 rfl (aU (cH (⟨v144,i+1,0,_⟩:a6×Nat×Nat×List Nat) ⟨hw3,(by omega),(by decide),hb146,(hJ (l:=l) (hl)),iX hwf _,G6 (by omega) (by omega) hv (by omega),(Ri.updL (rl6.ext e93) u147 ne21),(Ri.updL (rl7.ext e93) u147 ne22)⟩ (show n4-(i+1)<n4-i by omega) rfl ⟨rfl,rfl,rfl,rfl,rfl,trivial⟩))))))))
  · 
   obtain⟨p149,hp149,hc149,hv149⟩:=(rl6).at (by decide) (i:=i) (by omega)
   refine gR eZ 10 [] [Is (.slice A4 n4 c4),Is (.int .i64 i),Is (.pointer (some p149)),Is (.int .i64 ((ds.getD i 0:Nat):Int)),Is (.slice A8 n8 c8),Is (.int .i64 i),Is (.int .i64 ((es.getD i 0:Nat):Int)),Is (.int .i64 (((ds.getD i 0:Nat):Int)-((es.getD i 0:Nat):Int))),Is (.int .i64 t),Is (.int .i64 ((((ds.getD i 0:Nat):Int)-((es.getD i 0:Nat):Int))-((t:Nat):Int)))] [[],[],[0,1],[2],[],[],[4,5],[3,6],[],[7,8]] [[],[],[0,1],[0,1,2],[],[],[4,5],[0,1,2,3,4,5,6],[],[0,1,2,3,4,5,6,7,8],[0,1,2,3,4,5,6,7,8,9]] rfl
    (aR rfl rfl (aK rfl rfl ?_) (aR rfl rfl (aK rfl rfl ?_) (aR rfl rfl (aK rfl rfl ?_) (aR rfl rfl (aK rfl rfl ?_) (aR rfl rfl (aK rfl rfl ?_) (aR rfl rfl (aK rfl rfl ?_) (aR rfl rfl (aK rfl rfl ?_) (aR rfl rfl (aK rfl rfl ?_) (aR rfl rfl (aK rfl rfl ?_) (aR rfl rfl (aK rfl rfl ?_) gP)))))))))) ?_
   · 
    exact fun _ _=>aJ (mv 1 rfl (aQ rfl (Ext.refl _) rfl))
   · 
    exact fun _ _=>aJ (mv 1 rfl (aQ rfl (Ext.refl _) rfl))
   · 
    exact fun _ _=>dk rfl rfl (dk rfl rfl (aJ (bT rfl rfl rfl nR mM i rfl p149 hp149 (aQ rfl (Ext.refl _) rfl))))
   · 
    exact fun _ e167=>dk rfl rfl (aJ (aS rfl rfl (cZ zY (e167.cell hc149)) (aQ rfl (Ext.refl _) rfl)))
   · 
    exact fun _ _=>aJ (mv 1 rfl (aQ rfl (Ext.refl _) rfl))
   · 
    exact fun _ _=>aJ (mv 1 rfl (aQ rfl (Ext.refl _) rfl))
   · 
    intro v177 e178
    have hw2:=hw1.trans e178
    refine dk rfl rfl (dk rfl rfl (aJ (cl (vs:= [.slice A8 n8 c8,.int .i64 i]) hw2 (L7 (rl7.ext e178) (by omega) (by omega)) rfl (by kernel_rfl) fun xr191 v189 r191 e190 hw3=>?_)))
    obtain rfl:=r191
    exact aQ rfl e190 rfl
   · 
    exact fun _ _=>dk rfl rfl (dk rfl rfl (aJ (aE rfl rfl rfl (((ds.getD i 0:Nat):Int)-((es.getD i 0:Nat):Int)) (dM rfl) (aQ rfl (Ext.refl _) rfl))))
   · 
    exact fun _ _=>aJ (mv 1 rfl (aQ rfl (Ext.refl _) rfl))
   · 
    exact fun _ _=>dk rfl rfl (dk rfl rfl (aJ (aE rfl rfl rfl ((((ds.getD i 0:Nat):Int)-((es.getD i 0:Nat):Int))-((t:Nat):Int)) (dM rfl) (aQ rfl (Ext.refl _) rfl))))
   · 
    intro v218 e219
    have hw2:=hw1.trans e219
    refine dk rfl rfl (dk rfl rfl (dk rfl rfl (dk rfl rfl (dk rfl rfl (dk rfl rfl (dk rfl rfl (dk rfl rfl (dk rfl rfl (dk rfl rfl (aJ (mv 1 rfl (aU (gQ ?_)))))))))))))
    refine aD (sr (mv 1 rfl (a0 (aA (sr (mv 1 rfl (aB rfl rfl rfl true (pB (by omega)) (a0 (aP rfl (sr (mv 1 rfl (aE rfl rfl rfl ((ds.getD i 0+65536-es.getD i 0-t:Nat):Int) (lJ) (mv 1 rfl ?_)))))))))))))
    refine a0 (a7 (mv 1 rfl (a0 (a7 (mv 3 rfl (bT rfl rfl rfl nR mM i rfl ⟨g12,i,none⟩ (dP _ _) ?_))))))
    have hb271:=(hb.ext e219)
    refine eB rfl rfl rfl mM rfl hb271 (fK (by rw [hl];omega)) rfl ((l.set i (ds.getD i 0+65536-es.getD i 0-t)).map I6) (qP _ _ _) fun v270 hb272 u273 hs274=>?_
    have hw3:=u273.ext hw2 ge17
    refine aU (cA (aD (a7 (mv 1 rfl (aE rfl rfl rfl ((i+1:Nat):Int) (bF (a:=i) (b:=1) rfl rfl) (mv 1 rfl (aU (cH (⟨v270,i+1,1,_⟩:a6×Nat×Nat×List Nat) ⟨hw3,(by omega),(by decide),hb272,(hJ (l:=l) (hl)),iX hwf _,G6 (by omega) (by omega) hv (by omega),(Ri.updL (rl6.ext e219) u273 ne21),(Ri.updL (rl7.ext e219) u273 ne22)⟩ (show n4-(i+1)<n4-i by omega) rfl ⟨rfl,rfl,rfl,rfl,rfl,trivial⟩))))))))
 · 
  refine a7 (mv 2 rfl (pu (v:= .int .i64 n4) rfl (aB rfl rfl rfl false (cX (a:=i) (b:=n4) rfl rfl) (a0 (aI rfl (cR (cN (cP (cQ (aD (aA ?_)))))))))))
  obtain rfl:n4=i:=by omega
  have hval:=QP hds hes (a01 hle) hll6 hl hwf hv
  refine a7 (mv 1 rfl (cl (vs:= [.slice (some ⟨g12,0,none⟩) n4 n4]) hw1 (L9 hw1.size (hb.ri0 hwf hl (by omega)) (by omega)) rfl (by kernel_rfl) fun xr277 v275 r277 e276 hw2=>?_))
  obtain⟨A278,n278,c278,rfl,j278,o278⟩:=r277
  refine mv 2 rfl (a0 (aM (aL [.slice A278 n278 c278,I0] rfl ⟨rfl,rfl,trivial⟩ ?_)))
  rw [hval] at j278 o278
  exact⟨_,rfl,⟨_,_,rfl,⟨_,_,_,rfl,j278,o278⟩,rfl⟩,hw2⟩
def TR (A:Option aC)(n c:Nat)(xs:List Nat)(v:aH)(_:a6):Prop:=∃k,v= .slice A k c∧k≤n∧(k=0∨xs.getD (k-1) 0≠0)∧∀b,nb b (xs.take k)=nb b xs
theorem Q9 (hk:k>0)(hl:k≤xs.length)(h0:xs.getD (k-1) 0=0)(hv:∀b,nb b (xs.take k)=nb b xs)(b:Nat):nb b (xs.take (k-1))=nb b xs:=by
 rw [←hv b,←yK b xs (k-1) (by omega) h0,Nat.sub_add_cancel hk]
theorem BN (A:Option aC)(c k:Nat):wK (if c=0 then A else A.map (·.add (0*1))) (k-0) (c-0)= .slice A k c:=by
 have h0:A.map (·.add (0*1))=A:=by
  cases A with
  | none=>rfl
  | some a=>simp [a1z]
 rw [h0,ite_self];rfl
def WD (m:Nat)(v:aH)(w:a6):Prop:=∃A k c,v= .slice A k c∧Rd w A k c (db 4294967296 m)
theorem lI:2≤4294967296:=by decide
theorem wF:WB=4294967296^2:=by decide
theorem Wfb.wf (h:Wfb 4294967296 xs):Wf xs:=fun x hx=>Nat.lt_trans (h x hx) (by decide)
theorem Bk.rd0 {w:a6}(h:Bk w g t (l.map aW))(hw:Wf l)(hl:l.length=N)(hN:N≤9223372036854775807):Rd w (some ⟨g,0,none⟩) N N l:=by
 have:=h.rd hw (o:=0) (n:=N) (cap:=N) (b8 _) (by omega) (by rw [eY];exact hN)
 rwa [gU,List.take_of_length_le (Nat.le_of_eq hl)] at this
theorem Rd.trim {w:a6}(h:Rd w A n c xs)(hw:Wfb 4294967296 xs)(hk:k≤n)(ht:k=0∨xs.getD (k-1) 0≠0)(hv:∀b,nb b (xs.take k)=nb b xs):
  Rd w A k c (db 4294967296 (nb 4294967296 xs)):=by
 rw [zM lI hw (by rw [h.len];exact hk) (hv _) ht]
 exact h.take hk (by have:=h.rv.le;omega) (b8 _)
theorem Y5 (hl:2*i+1<l.length)(hi:i<xs.length)(hx:xs.getD i 0=x)(h:nb 4294967296 (l.take (2*i))=nv (xs.take i)):
  nb 4294967296 (((l.set (2*i) (x%4294967296)).set (2*i+1) (x/4294967296)).take (2*(i+1)))=nv (xs.take (i+1)):=by
 rw [show 2*(i+1)=2*i+1+1 by omega,qM 4294967296 (by rw [List.length_set];exact hl),qM 4294967296 (by omega),h,fB xs i hi,hx,wF,←Nat.pow_mul,cB,bH,j0,←cT,jY]
structure WI (ys l:List Nat)(i:Nat):Prop where
 wf:Wf l
 v:nv l=nb 4294967296 (ys.take i)
 z:∀j,i≤2*j→l.getD j 0=0
 o:i%2=1→l.getD (i/2) 0<4294967296
theorem WI.start (ys:List Nat)(N:Nat):WI ys (bP N 0) 0:=by
 refine⟨fun x hx=>by rw [(List.mem_replicate.1 hx).2];decide,?_,fun j _=>?_,fun h=>by omega⟩
 ·rw [vI,vK];rfl
 ·rw [bC]
  by_cases h:j<N
  ·rw [List.getElem?_replicate_of_lt h];rfl
  ·rw [kM (by rw [List.length_replicate];omega)];rfl
theorem WI.even (h:WI ys l i)(he:i%2=0)(hi:i<ys.length)(hl:i/2<l.length)(hd:ys.getD i 0<4294967296):WI ys (l.set (i/2) (ys.getD i 0)) (i+1):=by
 have h0:=h.z (i/2) (by omega)
 have h1:=nW hl (ys.getD i 0)
 refine⟨gS h.wf _ (Nat.lt_trans hd (by decide)),?_,fun j hj=>?_,fun _=>?_⟩
 ·rw [iL 4294967296 ys i hi,←h.v]
  rw [h0,iG,dN,wF,←Nat.pow_mul,show 2*(i/2)=i by omega] at h1
  exact h1
 ·rw [getD_set_ne (by omega),h.z j (by omega)]
 ·rw [show (i+1)/2=i/2 by omega,tK hl];exact hd
theorem WI.odd (h:WI ys l i)(he:i%2=1)(hi:i<ys.length)(hl:i/2<l.length)(hd:ys.getD i 0<4294967296):WI ys (l.set (i/2) (l.getD (i/2) 0+ys.getD i 0*4294967296)) (i+1):=by
 have h0:=h.o he
 have h1:=nW hl (l.getD (i/2) 0+ys.getD i 0*4294967296)
 refine⟨gS h.wf _ (by rw [cF];omega),?_,fun j hj=>?_,fun h=>by omega⟩
 ·have e:WB^(i/2)*4294967296=4294967296^i:=by
   rw [wF,←Nat.pow_mul,←cB,show (2*(i/2)).succ=i by omega]
  rw [iL 4294967296 ys i hi,←h.v,←e]
  rw [cT] at h1
  have e2:WB^(i/2)*(ys.getD i 0*4294967296)=WB^(i/2)*4294967296*ys.getD i 0:=by rw [bY (ys.getD i 0),bH]
  omega
 ·rw [getD_set_ne (by omega),h.z j (by omega)]
theorem WI.done (h:WI ys l k)(hk:ys.length=k)(hl:l.length=(k+1)/2)(hv:nb 4294967296 ys=nb 4294967296 xs)(ht:k=0∨ys.getD (k-1) 0≠0):l.take ((k+1)/2)=wd (nb 4294967296 xs):=by
 have hv2:nv l=nb 4294967296 xs:=by rw [h.v,List.take_of_length_le (Nat.le_of_eq hk),hv]
 rw [List.take_of_length_le (by omega),←hv2]
 refine (FF h.wf ?_).symm
 by_cases h0:k=0
 ·left;omega
 ·right
  have h1:ys.getD (k-1) 0≠0:=by omega
  rw [hv2,←hv,mV 4294967296 ys (k-1),hl]
  have h2:WB^((k+1)/2-1)≤4294967296^(k-1):=by
   rw [wF,←Nat.pow_mul]
   exact dU (by decide) (by omega)
  have h3:1≤nb 4294967296 (ys.drop (k-1)):=by
   rw [m4 (by omega),lD]
   rw [bC,cJ (by omega),Option.getD_some] at h1
   omega
  have h4:4294967296^(k-1)*1≤4294967296^(k-1)*nb 4294967296 (ys.drop (k-1)):=eF _ h3
  omega
theorem QG (h:k=0∨xs.getD (k-1) 0≠0):k=0∨(xs.take k).getD (k-1) 0≠0:=by
 by_cases h0:k=0
 ·exact cE h0
 ·rw [yR (by omega)];exact h
set_option maxHeartbeats 4000000 in
theorem tA {w:a6}(hx:Rd w A n cap xs)(hln:n≤1099511627776:=by omega):
    aO aF 241 #[.slice A n cap] w (Gv w (TR A n cap xs)):=by
 have hlen:=hx.len
 have hle:=hx.rv.le
 refine bK Tryz.func241 rfl (n:=21) rfl (bq rfl) (args:= [.slice A n cap]) (bE [(0,.slice A n cap)] ⟨rfl,trivial⟩ (sr (mv 1 rfl (a0 (sr (mv 1 rfl (pu (v:= .int .i64 n) rfl (mv 1 rfl (a0 (aA (bG ?_)))))))))))
 refine d4 (T:=a6×Nat)
  (fun⟨wr,k⟩=> [(0,.slice A n cap),(3,.int .i64 k)])
  (fun⟨wr,k⟩=>wr)
  (fun⟨wr,k⟩=>(Ext w wr)∧(k≤n)∧(∀b,nb b (xs.take k)=nb b xs)∧(Rd wr A n cap xs))
  (fun⟨wr,k⟩=>k)
  (⟨w,n⟩:a6×Nat) ⟨(Ext.refl w),b8 _,fun b=>by rw [List.take_of_length_le (by omega)],hx⟩ rfl ⟨rfl,rfl,trivial⟩ ?_
 rintro⟨wr,k⟩ ⟨hw1,hk,hv,rl0⟩
 refine cC [(0,.slice A n cap),(3,.int .i64 k)] wr rfl ⟨rfl,rfl,trivial⟩ (aA (aA ?_))
 by_cases hkp:k>0
 · 
  by_cases hz:xs.getD (k-1) 0=0
  · 
   refine a7 (mv 1 rfl (aB rfl rfl rfl true (dJ (a:=k) (b:=0) rfl rfl) (mv 3 rfl (aE rfl rfl rfl ((k-1:Nat):Int) (eR (a:=k) (b:=1) rfl rfl) ?_))))
   obtain⟨p1,hp1,hc1,hv1⟩:=(rl0).at (i:=k-1) (by omega)
   refine bT rfl rfl rfl bU bN (k-1) rfl p1 hp1 (aS rfl rfl (cZ d7 hc1) (aB rfl rfl rfl true (dA (a:=xs.getD (k-1) 0) (b:=0) rfl rfl) (pu (v:= .bool true) rfl (a0 (aP rfl (aN (aD (bG (a7 (mv 1 rfl (aE rfl rfl rfl ((k-1:Nat):Int) (eR (a:=k) (b:=1) rfl rfl) (mv 1 rfl (aU ?_)))))))))))))
   refine cA (cH (⟨wr,k-1⟩:a6×Nat) ⟨hw1,(by omega),Q9 hkp (by omega) hz hv,rl0⟩ (show k-1<k by omega) rfl ⟨rfl,rfl,trivial⟩)
  · 
   refine a7 (mv 1 rfl (aB rfl rfl rfl true (dJ (a:=k) (b:=0) rfl rfl) (mv 3 rfl (aE rfl rfl rfl ((k-1:Nat):Int) (eR (a:=k) (b:=1) rfl rfl) ?_))))
   obtain⟨p2,hp2,hc2,hv2⟩:=(rl0).at (i:=k-1) (by omega)
   refine bT rfl rfl rfl bU bN (k-1) rfl p2 hp2 (aS rfl rfl (cZ d7 hc2) (aB rfl rfl rfl false (dC (a:=xs.getD (k-1) 0) (b:=0) rfl rfl) (pu (v:= .bool false) rfl (a0 (aI rfl (cR (cN (cP (cQ (aD (sr (mv 2 rfl (jT rfl rfl bU bN (lo:=0) (hi:=k) rfl rfl (by omega) (by omega) (v:= .slice A k cap) (BN _ _ _) (by decide) ?_)))))))))))))
   refine mv 1 rfl (a0 (aM (aL [.slice A k cap] rfl ⟨rfl,trivial⟩ ?_)))
   exact⟨_,rfl,⟨k,rfl,hk,bR hz,hv⟩,hw1⟩
 · 
  refine a7 (mv 1 rfl (aB rfl rfl rfl false (d6 (a:=k) (b:=0) rfl rfl) (mv 7 rfl (pu (v:= .bool false) rfl (a0 (aI rfl (cR (cN (cP (cQ (aD (sr (mv 1 rfl ?_)))))))))))))
  refine mv 1 rfl (jT rfl rfl bU bN (lo:=0) (hi:=k) rfl rfl (by omega) (by omega) (v:= .slice A k cap) (BN _ _ _) (by decide) (mv 1 rfl (a0 (aM (aL [.slice A k cap] rfl ⟨rfl,trivial⟩ ?_)))))
  exact⟨_,rfl,⟨k,rfl,hk,cE (by omega),hv⟩,hw1⟩
set_option maxHeartbeats 4000000 in
theorem I5 {w:a6}(hx:Rd w A n cap xs)(hln:n≤274877906944):
    aO aF 229 #[.slice A n cap] w (Gv w (WD (nv xs))):=by
 have hlen:=hx.len
 have hle:=hx.rv.le
 refine bK Tryz.func229 rfl (n:=38) rfl (bq rfl) (args:= [.slice A n cap]) (bE [(0,.slice A n cap)] ⟨rfl,trivial⟩ (sr (mv 1 rfl (a0 (sr (mv 1 rfl (cl (vs:= [.slice A n cap]) (Ext.refl w) (tA hx) rfl (by kernel_rfl) fun xr3 v1 r3 e2 hw1=>?_)))))))
 obtain⟨k4,rfl,hk4,ht4,hv4⟩:=r3
 have rd4:=((hx.ext e2)).take hk4 (by omega) (b8 _)
 refine mv 1 rfl (a0 (aA ?_))
 obtain⟨ys,hys⟩:∃ys,xs.take k4=ys:=⟨_,rfl⟩
 have hvy:nv ys=nv xs:=by rw [←hys,vI,vI];exact hv4 _
 rw [hys] at rd4
 have hly:=rd4.len
 refine a7 (mv 1 rfl (pu (v:= .int .i64 k4) rfl (aE rfl rfl rfl ((2*k4:Nat):Int) (nB (a:=2) (b:=k4) rfl rfl) (l7 rfl (k:=2*k4) rfl rfl rfl bU jE rfl fun g5 v6 hg7 hb8 e9=>?_))))
 rw [kR] at hb8
 have ge10:w.heap.size≤g5:=by rw [←hg7];exact hw1.size
 have ne12:0<cap→∀a,A=some a→a.block≠g5:=fun hc a ha=>by have:=(rd4).rv.blk a ha hc;omega
 clear hg7
 have hw2:=hw1.trans e9
 refine mv 1 rfl (a0 (aA (sr (mv 1 rfl (a0 (bG ?_))))))
 refine d4 (T:=a6×Nat×List Nat)
  (fun⟨wr,i,l⟩=> [(0,.slice A k4 cap),(3,.slice (some ⟨g5,0,none⟩) (2*k4) (2*k4)),(4,.int .i64 i)])
  (fun⟨wr,i,l⟩=>wr)
  (fun⟨wr,i,l⟩=>(Ext w wr)∧(i≤k4)∧(Bk wr g5 65 (l.map aW))∧(l.length=2*k4)∧(Wfb 4294967296 l)∧(nb 4294967296 (l.take (2*i))=nv (ys.take i))∧(Rd wr A k4 cap ys))
  (fun⟨wr,i,l⟩=>k4-i)
  (⟨v6,0,_⟩:a6×Nat×List Nat) ⟨hw2,bW _,hb8,(List.length_replicate (n:=2*k4) (a:=0)),pL _,by simp [nb,nv],(rd4.ext e9)⟩ rfl ⟨rfl,rfl,rfl,trivial⟩ ?_
 rintro⟨wr,i,l⟩ ⟨hw1,hi,hb,hl,hwf,hv,rl0⟩
 refine cC [(0,.slice A k4 cap),(3,.slice (some ⟨g5,0,none⟩) (2*k4) (2*k4)),(4,.int .i64 i)] wr rfl ⟨rfl,rfl,rfl,trivial⟩ (aA (aA ?_))
 by_cases him:i<k4
 · 
  refine a7 (mv 2 rfl (pu (v:= .int .i64 k4) rfl (aB rfl rfl rfl true (dB (a:=i) (b:=k4) rfl rfl) (a0 (aP rfl (aN (aD (aA (bG (aA ?_))))))))))
  have hxb:ys.getD i 0≤18446744073709551615:=by have:=oD rd4.wf i;rw [cF] at this;omega
  refine a7 (mv 2 rfl (aE rfl rfl rfl ((2*i:Nat):Int) (nB (a:=2) (b:=i) rfl rfl) (mv 2 rfl ?_)))
  obtain⟨p13,hp13,hc13,hv13⟩:=(rl0).at (i:=i) (by omega)
  refine bT rfl rfl rfl bU bN i rfl p13 hp13 (aS rfl rfl (cZ d7 hc13) (aE rfl rfl rfl (((ys.getD i 0)%4294967296:Nat):Int) (fC (a:=ys.getD i 0) (b:=4294967296) rfl rfl) (bT rfl rfl rfl bU bN (2*i) rfl ⟨g5,2*i,none⟩ (dP _ _) ?_)))
  have hb15:=hb
  refine eB rfl rfl rfl bN rfl hb15 (fK (by rw [hl];omega)) rfl ((l.set (2*i) ((ys.getD i 0)%4294967296)).map aW) (eG _ _ _) fun v14 hb16 u17 hs18=>?_
  have hw2:=u17.ext hw1 ge10
  refine a0 (a7 (mv 2 rfl (aE rfl rfl rfl ((2*i:Nat):Int) (nB (a:=2) (b:=i) rfl rfl) (aE rfl rfl rfl (((2*i)+1:Nat):Int) (bF (a:=2*i) (b:=1) rfl rfl) (mv 2 rfl ?_)))))
  obtain⟨p19,hp19,hc19,hv19⟩:=((Rd.updL rl0 u17 ne12)).at (i:=i) (by omega)
  refine bT rfl rfl rfl bU bN i rfl p19 hp19 (aS rfl rfl (cZ d7 hc19) (aE rfl rfl rfl (((ys.getD i 0)/4294967296:Nat):Int) (iR (a:=ys.getD i 0) (b:=4294967296) rfl rfl) (bT rfl rfl rfl bU bN ((2*i)+1) rfl ⟨g5,(2*i)+1,none⟩ (dP _ _) (eB rfl rfl rfl bN rfl hb16 (fK (by rw [(hJ (l:=l) (hl))];omega)) rfl (((l.set (2*i) ((ys.getD i 0)%4294967296)).set ((2*i)+1) ((ys.getD i 0)/4294967296)).map aW) (eG _ _ _) fun v20 hb22 u23 hs24=>?_))))
  have hw3:=u23.ext hw2 ge10
  refine aU (cA (aD (a7 (mv 1 rfl (aE rfl rfl rfl ((i+1:Nat):Int) (bF (a:=i) (b:=1) rfl rfl) (mv 1 rfl (aU (cH (⟨v20,i+1,_⟩:a6×Nat×List Nat) ⟨hw3,(by omega),hb22,(hJ (l:=l.set (2*i) ((ys.getD i 0)%4294967296)) ((hJ (l:=l) (hl)))),iX (iX hwf _ (hx:=(eO _ (by decide)))) _,Y5 (by omega) (by omega) rfl hv,(Rd.updL (Rd.updL rl0 u17 ne12) u23 ne12)⟩ (show k4-(i+1)<k4-i by omega) rfl ⟨rfl,rfl,rfl,trivial⟩))))))))
 · 
  refine a7 (mv 2 rfl (pu (v:= .int .i64 k4) rfl (aB rfl rfl rfl false (cX (a:=i) (b:=k4) rfl rfl) (a0 (aI rfl (cR (cN (cP (cQ (aD (aA ?_)))))))))))
  obtain rfl:k4=i:=by omega
  have hval:nb 4294967296 l=nv xs:=by rw [←hvy];rwa [List.take_of_length_le (by omega),List.take_of_length_le (by omega)] at hv
  refine a7 (mv 1 rfl (cl (vs:= [.slice (some ⟨g5,0,none⟩) (2*k4) (2*k4)]) hw1 (tA (hb.rd0 hwf.wf hl (by omega))) rfl (by kernel_rfl) fun xr27 v25 r27 e26 hw2=>?_))
  obtain⟨k28,rfl,hk28,ht28,hv28⟩:=r27
  refine mv 1 rfl (a0 (aM (aL [.slice (some ⟨g5,0,none⟩) k28 (2*k4)] rfl ⟨rfl,trivial⟩ ?_)))
  have hr:=((hb.ext e26).rd0 hwf.wf hl (by omega)).trim hwf hk28 ht28 hv28
  rw [hval] at hr
  exact⟨_,rfl,⟨_,_,_,rfl,hr⟩,hw2⟩
set_option maxHeartbeats 4000000 in
theorem TL {w:a6}(hx:Rd w A n cap xs)(hln:n≤1099511627776)(hwx:Wfb 4294967296 xs):
    aO aF 231 #[.slice A n cap] w (Gv w (WR w.heap.size (nb 4294967296 xs))):=by
 have hlen:=hx.len
 have hle:=hx.rv.le
 refine bK Tryz.func231 rfl (n:=45) rfl (bq rfl) (args:= [.slice A n cap]) (bE [(0,.slice A n cap)] ⟨rfl,trivial⟩ (sr (mv 1 rfl (a0 (sr (mv 1 rfl (cl (vs:= [.slice A n cap]) (Ext.refl w) (tA hx) rfl (by kernel_rfl) fun xr3 v1 r3 e2 hw1=>?_)))))))
 obtain⟨k4,rfl,hk4,ht4,hv4⟩:=r3
 have rd4:=((hx.ext e2)).take hk4 (by omega) (b8 _)
 refine mv 1 rfl (a0 (aA ?_))
 have hwy:Wfb 4294967296 (xs.take k4):=kF hwx _
 have hty:=QG ht4
 have hvy:=hv4 4294967296
 obtain⟨ys,hys⟩:∃ys,xs.take k4=ys:=⟨_,rfl⟩
 rw [hys] at rd4 hwy hty hvy
 have hly:=rd4.len
 refine a7 (mv 1 rfl (pu (v:= .int .i64 k4) rfl (aE rfl rfl rfl ((k4+1:Nat):Int) (bF (a:=k4) (b:=1) rfl rfl) (aE rfl rfl rfl (((k4+1)/2:Nat):Int) (iS (a:=k4+1) (b:=2) rfl rfl) (l7 rfl (k:=(k4+1)/2) rfl rfl rfl bU jE rfl fun g5 v6 hg7 hb8 e9=>?_)))))
 rw [kR] at hb8
 have ge10:w.heap.size≤g5:=by rw [←hg7];exact hw1.size
 have ne12:0<cap→∀a,A=some a→a.block≠g5:=fun hc a ha=>by have:=(rd4).rv.blk a ha hc;omega
 clear hg7
 have hw2:=hw1.trans e9
 refine mv 1 rfl (a0 (aA (sr (mv 1 rfl (a0 (bG ?_))))))
 refine d4 (T:=a6×Nat×List Nat)
  (fun⟨wr,i,l⟩=> [(0,.slice A k4 cap),(3,.slice (some ⟨g5,0,none⟩) ((k4+1)/2) ((k4+1)/2)),(4,.int .i64 i)])
  (fun⟨wr,i,l⟩=>wr)
  (fun⟨wr,i,l⟩=>(Ext w wr)∧(i≤k4)∧(Bk wr g5 65 (l.map aW))∧(l.length=(k4+1)/2)∧(WI ys l i)∧(Rd wr A k4 cap ys))
  (fun⟨wr,i,l⟩=>k4-i)
  (⟨v6,0,_⟩:a6×Nat×List Nat) ⟨hw2,bW _,hb8,(List.length_replicate (n:=(k4+1)/2) (a:=0)),WI.start _ _,(rd4.ext e9)⟩ rfl ⟨rfl,rfl,rfl,trivial⟩ ?_
 rintro⟨wr,i,l⟩ ⟨hw1,hi,hb,hl,hI,rl0⟩
 refine cC [(0,.slice A k4 cap),(3,.slice (some ⟨g5,0,none⟩) ((k4+1)/2) ((k4+1)/2)),(4,.int .i64 i)] wr rfl ⟨rfl,rfl,rfl,trivial⟩ (aA (aA ?_))
 by_cases him:i<k4
 · 
  refine a7 (mv 2 rfl (pu (v:= .int .i64 k4) rfl (aB rfl rfl rfl true (dB (a:=i) (b:=k4) rfl rfl) (a0 (aP rfl (aN (aD (aA (bG (aA ?_))))))))))
  have hxb:=iY (b:=4294967296) hwy i
  by_cases hp:i%2=0
  · 
   refine a7 (mv 1 rfl (aE rfl rfl rfl ((i%2:Nat):Int) (fC (a:=i) (b:=2) rfl rfl) (aB rfl rfl rfl true (dA (a:=i%2) (b:=0) rfl rfl) (a0 (aP rfl (a7 (mv 2 rfl (aE rfl rfl rfl ((i/2:Nat):Int) (iS (a:=i) (b:=2) rfl rfl) (mv 2 rfl ?_)))))))))
   obtain⟨p13,hp13,hc13,hv13⟩:=(rl0).at (i:=i) (by omega)
   refine bT rfl rfl rfl bU bN i rfl p13 hp13 (aS rfl rfl (cZ d7 hc13) (bT rfl rfl rfl bU bN (i/2) rfl ⟨g5,i/2,none⟩ (dP _ _) ?_))
   have hb15:=hb
   refine eB rfl rfl rfl bN rfl hb15 (fK (by rw [hl];omega)) rfl ((l.set (i/2) (ys.getD i 0)).map aW) (eG _ _ _) fun v14 hb16 u17 hs18=>?_
   have hw2:=u17.ext hw1 ge10
   refine aU (cA (aD (a7 (mv 1 rfl (aE rfl rfl rfl ((i+1:Nat):Int) (bF (a:=i) (b:=1) rfl rfl) (mv 1 rfl (aU (cH (⟨v14,i+1,_⟩:a6×Nat×List Nat) ⟨hw2,(by omega),hb16,(hJ (l:=l) (hl)),hI.even hp (by omega) (by omega) hxb,(Rd.updL rl0 u17 ne12)⟩ (show k4-(i+1)<k4-i by omega) rfl ⟨rfl,rfl,rfl,trivial⟩))))))))
  · 
   have aK:=hI.o (by omega)
   refine a7 (mv 1 rfl (aE rfl rfl rfl ((i%2:Nat):Int) (fC (a:=i) (b:=2) rfl rfl) (aB rfl rfl rfl false (dC (a:=i%2) (b:=0) rfl rfl) (a0 (aI rfl (bE [(0,.slice A k4 cap),(3,.slice (some ⟨g5,0,none⟩) ((k4+1)/2) ((k4+1)/2)),(4,.int .i64 i),(12,.int .i64 i),(13,.slice A k4 cap),(14,.int .i64 k4),(15,.bool true),(18,.int .i64 i),(19,.int .i64 ((i%2:Nat):Int)),(20,.bool false)] ⟨rfl,rfl,rfl,rfl,rfl,rfl,rfl,rfl,rfl,rfl,trivial⟩ ?_))))))
   obtain⟨v19,hv,e20⟩:∃v,v=wr.drew∧Ext wr v:=⟨_,rfl,(Ext.refl _).drew⟩
   have hw2:=hw1.trans e20
   obtain⟨p21,hp21,hc21,hv21⟩:=((rl0.ext e20)).at (i:=i) (by omega)
   have hb23:=(hb.ext e20)
   obtain⟨v22,hr27,hb24,u25,hs26⟩:=uV (P:=aF) (v:= .int .u64 (((l.getD (i/2) 0)+((ys.getD i 0)*4294967296):Nat):Int)) (off:=i/2) bN rfl hb23 (fK (by rw [hl];omega)) rfl ((l.set (i/2) ((l.getD (i/2) 0)+((ys.getD i 0)*4294967296))).map aW) (eG _ _ _)
   have hw3:=u25.ext hw2 ge10
   refine nA eZ (w:=v19) [.slice (some ⟨g5,0,none⟩) ((k4+1)/2) ((k4+1)/2),.int .i64 i,.int .i64 ((i/2:Nat):Int),.slice (some ⟨g5,0,none⟩) ((k4+1)/2) ((k4+1)/2),.int .i64 i,.int .i64 ((i/2:Nat):Int),.pointer (some (⟨g5,i/2,none⟩)),.int .u64 ((l.getD (i/2) 0:Nat):Int),.slice A k4 cap,.int .i64 i,.pointer (some p21),.int .u64 ((ys.getD i 0:Nat):Int),.int .u64 (((ys.getD i 0)*4294967296:Nat):Int),.int .u64 (((l.getD (i/2) 0)+((ys.getD i 0)*4294967296):Nat):Int),.pointer (some (⟨g5,i/2,none⟩)),undef] [v19,v22] [15] [[],[],[1],[],[],[4],[3,5],[6],[],[],[8,9],[10],[11],[7,12],[0,2],[13,14]] [[],[],[1],[],[],[4],[3,4,5],[3,4,5,6],[],[],[8,9],[8,9,10],[8,9,10,11],[3,4,5,6,7,8,9,10,11,12],[0,1,2,3,4,5,6,7,8,9,10,11,12,13],[0,1,2,3,4,5,6,7,8,9,10,11,12,13,14]] [(0,0),(1,0),(2,0),(3,0),(4,0),(5,0),(6,0),(7,0),(8,0),(9,0),(10,0),(11,0),(12,0),(13,0),(14,0),(15,0)] rfl hv ?_ ?_
   · 
    refine bI _ rfl rfl rfl rfl rfl (dO rfl) (bI _ rfl rfl rfl rfl rfl (dO rfl) (bI _ rfl rfl rfl rfl rfl (lN rfl rfl ((i/2:Nat):Int) (iS (a:=i) (b:=2) rfl rfl)) (bI _ rfl rfl rfl rfl rfl (dO rfl) (bI _ rfl rfl rfl rfl rfl (dO rfl) (bI _ rfl rfl rfl rfl rfl (lN rfl rfl ((i/2:Nat):Int) (iS (a:=i) (b:=2) rfl rfl)) (bI _ rfl rfl rfl rfl rfl (gX rfl rfl bU bN (i/2) rfl ⟨g5,i/2,none⟩ (dP _ _)) (bI _ rfl rfl rfl rfl rfl (gW rfl (iW d7 (hb.ext e20) (by rw [hl];omega))) (bI _ rfl rfl rfl rfl rfl (dO rfl) (bI _ rfl rfl rfl rfl rfl (dO rfl) (bI _ rfl rfl rfl rfl rfl (gX rfl rfl bU bN i rfl p21 hp21) (bI _ rfl rfl rfl rfl rfl (gW rfl (cZ d7 hc21)) (bI _ rfl rfl rfl rfl rfl (lN rfl rfl (((ys.getD i 0)*4294967296:Nat):Int) (lX (a:=ys.getD i 0) (b:=4294967296) rfl rfl)) (bI _ rfl rfl rfl rfl rfl (lN rfl rfl (((l.getD (i/2) 0)+((ys.getD i 0)*4294967296):Nat):Int) (eW (a:=l.getD (i/2) 0) (b:=(ys.getD i 0)*4294967296) rfl rfl)) ?_)))))))))))))
    refine bI _ rfl rfl rfl rfl rfl (gX rfl rfl bU bN (i/2) rfl ⟨g5,i/2,none⟩ (dP _ _)) (D9 _ rfl rfl rfl rfl rfl (y9 rfl rfl hr27) ?_)
    exact mZ
   clear hv
   refine mD [(0,.slice A k4 cap),(3,.slice (some ⟨g5,0,none⟩) ((k4+1)/2) ((k4+1)/2)),(4,.int .i64 i),(12,.int .i64 i),(13,.slice A k4 cap),(14,.int .i64 k4),(15,.bool true),(18,.int .i64 i),(19,.int .i64 ((i%2:Nat):Int)),(20,.bool false),(29,.slice (some ⟨g5,0,none⟩) ((k4+1)/2) ((k4+1)/2)),(30,.int .i64 i),(31,.int .i64 ((i/2:Nat):Int)),(32,.slice (some ⟨g5,0,none⟩) ((k4+1)/2) ((k4+1)/2)),(33,.int .i64 i),(34,.int .i64 ((i/2:Nat):Int)),(35,.pointer (some (⟨g5,i/2,none⟩))),(36,.int .u64 ((l.getD (i/2) 0:Nat):Int)),(37,.slice A k4 cap),(38,.int .i64 i),(39,.pointer (some p21)),(40,.int .u64 ((ys.getD i 0:Nat):Int)),(41,.int .u64 (((ys.getD i 0)*4294967296:Nat):Int)),(42,.int .u64 (((l.getD (i/2) 0)+((ys.getD i 0)*4294967296):Nat):Int)),(43,.pointer (some (⟨g5,i/2,none⟩)))] ⟨rfl,rfl,rfl,rfl,rfl,rfl,rfl,rfl,rfl,rfl,rfl,rfl,rfl,rfl,rfl,rfl,rfl,rfl,rfl,rfl,rfl,rfl,rfl,rfl,rfl,trivial⟩ (cA (aD (a7 (mv 1 rfl (aE rfl rfl rfl ((i+1:Nat):Int) (bF (a:=i) (b:=1) rfl rfl) (mv 1 rfl (aU (cH (⟨v22,i+1,_⟩:a6×Nat×List Nat) ⟨hw3,(by omega),hb24,(hJ (l:=l) (hl)),hI.odd (by omega) (by omega) (by omega) hxb,(Rd.updL (rl0.ext e20) u25 ne12)⟩ (show k4-(i+1)<k4-i by omega) rfl ⟨rfl,rfl,rfl,trivial⟩))))))))
 · 
  refine a7 (mv 2 rfl (pu (v:= .int .i64 k4) rfl (aB rfl rfl rfl false (cX (a:=i) (b:=k4) rfl rfl) (a0 (aI rfl (cR (cN (cP (cQ (aD (sr (mv 2 rfl (aU ?_)))))))))))))
  refine aD (aM (aL [.slice (some ⟨g5,0,none⟩) ((k4+1)/2) ((k4+1)/2)] rfl ⟨rfl,trivial⟩ ?_))
  obtain rfl:k4=i:=by omega
  exact gw (b8 _) _ _ (tV (ys:=l) ge10 hb hl (b8 _) (by rw [eY];omega) (hI.done hly hl hvy hty) hw1)
def AR (b N m:Nat)(v:aH)(w:a6):Prop:=∃g l,v= .slice (some ⟨g,0,none⟩) N N∧b≤g∧Bk w g 65 (l.map aW)∧l.length=N∧Wfb 4294967296 l∧nb 4294967296 l=m
theorem RT (hl:i<l.length)(hi:i<xs.length)(h:nb 4294967296 (l.take i)+4294967296^i*c=nb 4294967296 (xs.take i)*f):
  nb 4294967296 ((l.set i ((xs.getD i 0*f+c)%4294967296)).take (i+1))+4294967296^(i+1)*((xs.getD i 0*f+c)/4294967296)=nb 4294967296 (xs.take (i+1))*f:=by
 rw [qM 4294967296 hl,cB,bH,j0,←cT,jY,iL 4294967296 xs i hi,dX,←h,cT,bH]
 omega
set_option maxHeartbeats 4000000 in
theorem I4 {w:a6}(hx:Rd w A n cap xs)(hln:n≤274877906944)(hwx:Wfb 4294967296 xs)(hf:f≤4294967295):
    aO aF 259 #[.slice A n cap,.int .u64 f] w (Gv w (AR w.heap.size (n+1) (nb 4294967296 xs*f))):=by
 have hlen:=hx.len
 have hle:=hx.rv.le
 refine bK Tryz.func259 rfl (n:=40) rfl (bq rfl) (args:= [.slice A n cap,.int .u64 f]) (bE [(0,.slice A n cap),(1,.int .u64 f)] ⟨rfl,rfl,trivial⟩ (sr (mv 1 rfl (a0 (sr (mv 1 rfl (pu (v:= .int .i64 n) rfl (aE rfl rfl rfl ((n+1:Nat):Int) (bF (a:=n) (b:=1) rfl rfl) (l7 rfl (k:=n+1) rfl rfl rfl bU jE rfl fun g1 v2 hg3 hb4 e5=>?_)))))))))
 rw [kR] at hb4
 have ge6:w.heap.size≤g1:=by rw [←hg3];exact (Ext.refl w).size
 have ne8:0<cap→∀a,A=some a→a.block≠g1:=fun hc a ha=>by have:=(hx).rv.blk a ha hc;omega
 clear hg3
 have hw1:=(Ext.refl w).trans e5
 refine mv 1 rfl (a0 (sr (mv 1 rfl (a0 (aA (sr (mv 1 rfl (a0 (bG ?_)))))))))
 refine d4 (T:=a6×Nat×Nat×List Nat)
  (fun⟨wr,i,c,l⟩=> [(0,.slice A n cap),(1,.int .u64 f),(5,.slice (some ⟨g1,0,none⟩) (n+1) (n+1)),(6,.int .u64 c),(7,.int .i64 i)])
  (fun⟨wr,i,c,l⟩=>wr)
  (fun⟨wr,i,c,l⟩=>(Ext w wr)∧(i≤n)∧(c≤4294967295)∧(Bk wr g1 65 (l.map aW))∧(l.length=n+1)∧(Wfb 4294967296 l)∧(nb 4294967296 (l.take i)+4294967296^i*c=nb 4294967296 (xs.take i)*f)∧(Rd wr A n cap xs))
  (fun⟨wr,i,c,l⟩=>n-i)
  (⟨v2,0,0,_⟩:a6×Nat×Nat×List Nat) ⟨hw1,bW _,bW _,hb4,(List.length_replicate (n:=n+1) (a:=0)),pL _,by simp [nb],(hx.ext e5)⟩ rfl ⟨rfl,rfl,rfl,rfl,rfl,trivial⟩ ?_
 rintro⟨wr,i,c,l⟩ ⟨hw1,hi,hc,hb,hl,hwf,hv,rl0⟩
 refine cC [(0,.slice A n cap),(1,.int .u64 f),(5,.slice (some ⟨g1,0,none⟩) (n+1) (n+1)),(6,.int .u64 c),(7,.int .i64 i)] wr rfl ⟨rfl,rfl,rfl,rfl,rfl,trivial⟩ (aA (aA ?_))
 by_cases him:i<n
 · 
  refine a7 (mv 2 rfl (pu (v:= .int .i64 n) rfl (aB rfl rfl rfl true (dB (a:=i) (b:=n) rfl rfl) (a0 (aP rfl (aN (aD (aA (bG (aA ?_))))))))))
  have hxb:=iY (b:=4294967296) hwx i
  have hm:(xs.getD i 0)*f≤4294967295*4294967295:=jQ (by omega) hf
  refine a7 (mv 2 rfl ?_)
  obtain⟨p9,hp9,hc9,hv9⟩:=(rl0).at (i:=i) (by omega)
  refine bT rfl rfl rfl bU bN i rfl p9 hp9 (aS rfl rfl (cZ d7 hc9) (mv 1 rfl (aE rfl rfl rfl (((xs.getD i 0)*f:Nat):Int) (lX (a:=xs.getD i 0) (b:=f) rfl rfl) (mv 1 rfl (aE rfl rfl rfl ((((xs.getD i 0)*f)+c:Nat):Int) (eW (a:=(xs.getD i 0)*f) (b:=c) rfl rfl) (mv 1 rfl (a0 (sr (mv 3 rfl (aE rfl rfl rfl (((((xs.getD i 0)*f)+c)%4294967296:Nat):Int) (fC (a:=((xs.getD i 0)*f)+c) (b:=4294967296) rfl rfl) (bT rfl rfl rfl bU bN i rfl ⟨g1,i,none⟩ (dP _ _) ?_)))))))))))
  have hb11:=hb
  refine eB rfl rfl rfl bN rfl hb11 (fK (by rw [hl];omega)) rfl ((l.set i ((((xs.getD i 0)*f)+c)%4294967296)).map aW) (eG _ _ _) fun v10 hb12 u13 hs14=>?_
  have hw2:=u13.ext hw1 ge6
  refine a0 (a7 (mv 1 rfl (aE rfl rfl rfl (((((xs.getD i 0)*f)+c)/4294967296:Nat):Int) (iR (a:=((xs.getD i 0)*f)+c) (b:=4294967296) rfl rfl) (mv 1 rfl (aU (cA (aD (a7 (mv 1 rfl (aE rfl rfl rfl ((i+1:Nat):Int) (bF (a:=i) (b:=1) rfl rfl) (mv 1 rfl (aU (cH (⟨v10,i+1,_,_⟩:a6×Nat×Nat×List Nat) ⟨hw2,(by omega),(by omega),hb12,(hJ (l:=l) (hl)),iX hwf _ (hx:=(eO _ (by decide))),RT (by omega) (by omega) hv,(Rd.updL rl0 u13 ne8)⟩ (show n-(i+1)<n-i by omega) rfl ⟨rfl,rfl,rfl,rfl,rfl,trivial⟩)))))))))))))
 · 
  refine a7 (mv 2 rfl (pu (v:= .int .i64 n) rfl (aB rfl rfl rfl false (cX (a:=i) (b:=n) rfl rfl) (a0 (aI rfl (cR (cN (cP (cQ (aD (aA ?_)))))))))))
  obtain rfl:n=i:=by omega
  refine a7 (mv 2 rfl (pu (v:= .int .i64 n) rfl (mv 1 rfl (bT rfl rfl rfl bU bN n rfl ⟨g1,n,none⟩ (dP _ _) ?_))))
  have hb16:=hb
  refine eB rfl rfl rfl bN rfl hb16 (fK (by rw [hl];omega)) rfl ((l.set n c).map aW) (eG _ _ _) fun v15 hb17 u18 hs19=>?_
  have hw2:=u18.ext hw1 ge6
  refine a0 (sr (mv 2 rfl (a0 (aM (aL [.slice (some ⟨g1,0,none⟩) (n+1) (n+1)] rfl ⟨rfl,trivial⟩ (⟨_,rfl,⟨_,_,rfl,ge6,hb17,(hJ (l:=l) (hl)),iX hwf _,?_⟩,hw2⟩))))))
  have h2:=qM 4294967296 (l:=l) (i:=n) (by omega) c
  rw [List.take_of_length_le (by rw [List.length_set];omega)] at h2
  rw [h2,hv,List.take_of_length_le (by omega)]
def TK (g N q s:Nat)(l es:List Nat)(w:a6)(e:Ending)(w':a6):Prop:=
 e= .returned (.tuple #[])∧Upd g w w'∧∃l',Bk w' g 65 (l'.map aW)∧l'.length=N∧Wfb 4294967296 l'∧nb 4294967296 l'+q*nb 4294967296 es*4294967296^s=nb 4294967296 l
theorem xF {e T d':Nat}(h:nb b l+q*nb b (es.take i)*b^s=Y+b^(s+i)*c)(hd0:l.getD (s+i) 0=d)(hT:T=c+q*e)(he:nb b (es.take (i+1))=nb b (es.take i)+b^i*e)(hk:s+i<l.length:=by omega)(hd:d'+T=d+b*c':=by omega):nb b (l.set (s+i) d')+q*nb b (es.take (i+1))*b^s=Y+b^(s+(i+1))*c':=by
 have h1:=vM b hk d'
 rw [hd0] at h1
 have e1:q*nb b (es.take (i+1))*b^s=q*nb b (es.take i)*b^s+b^(s+i)*(q*e):=by
  rw [he,cT,dX,bX]
  congr 1
  grind
 have e2:b^(s+i)*(d'+T)=b^(s+i)*(d+b*c'):=by rw [hd]
 have e3:b^(s+(i+1))*c'=b^(s+i)*(b*c'):=by rw [←j0,cB,bH]
 rw [hT] at e2
 simp only [cT] at e2
 rw [e1,e3]
 omega
theorem G1 (h:es.length≤i):nb b (es.take (i+1))=nb b (es.take i)+b^i*0:=by
 rw [List.take_of_length_le (by omega),List.take_of_length_le h];rfl
theorem G2 (hw:Wfb 4294967296 l')(hl:l'.length=N)(he:es.length=m)(hs:s+m≤N)(hi:s+i≤N)(hq:q*nb 4294967296 es*4294967296^s≤nb 4294967296 l)(h:nb 4294967296 l'+q*nb 4294967296 (es.take i)*4294967296^s=nb 4294967296 l+4294967296^(s+i)*c)(hend:s+i=N∨m≤i∧c=0):nb 4294967296 l'+q*nb 4294967296 es*4294967296^s=nb 4294967296 l:=by
 have hmi:m≤i:=by omega
 rw [List.take_of_length_le (by omega)] at h
 have hc:c=0:=by
  rcases hend with h1 | h1
  ·have h2:=nX hw
   rw [hl] at h2
   rw [h1] at h
   refine Nat.eq_zero_of_not_pos fun hp=>?_
   have h3:4294967296^N*1≤4294967296^N*c:=eF _ hp
   omega
  ·exact h1.2
 rw [hc,iG,dN] at h
 exact h
set_option maxHeartbeats 4000000 in
theorem y7 {w:a6}(hb0:Bk w g 65 (l.map aW))(hl0:l.length=N)(hwl:Wfb 4294967296 l)(hy:Rd w D m cd es)(hwe:Wfb 4294967296 es)(hne:0<cd→∀a,D=some a→a.block≠g)(hqb:q<4294967296)(hq:q*nb 4294967296 es*4294967296^s≤nb 4294967296 l)(hN:N≤1099511627776:=by omega)(hs:s+m≤N:=by omega):
    aO aF 242 #[.slice (some ⟨g,0,none⟩) N N,.slice D m cd,.int .u64 q,.int .i64 s] w (TK g N q s l es w):=by
 have hle:=hy.len
 refine bK Tryz.func242 rfl (n:=84) rfl (bq rfl) (args:= [.slice (some ⟨g,0,none⟩) N N,.slice D m cd,.int .u64 q,.int .i64 s]) (bE [(0,.slice (some ⟨g,0,none⟩) N N),(1,.slice D m cd),(2,.int .u64 q),(3,.int .i64 s)] ⟨rfl,rfl,rfl,rfl,trivial⟩ (sr (mv 1 rfl (a0 (sr (mv 1 rfl (a0 (bG ?_))))))))
 refine d4 (T:=a6×Nat×Nat×List Nat)
  (fun⟨wr,i,c,l'⟩=> [(0,.slice (some ⟨g,0,none⟩) N N),(1,.slice D m cd),(2,.int .u64 q),(3,.int .i64 s),(8,.int .u64 c),(9,.int .i64 i)])
  (fun⟨wr,i,c,l'⟩=>wr)
  (fun⟨wr,i,c,l'⟩=>(Upd g w wr)∧(s+i≤N)∧(c≤4294967296)∧(Bk wr g 65 (l'.map aW))∧(l'.length=N)∧(Wfb 4294967296 l')∧(nb 4294967296 l'+q*nb 4294967296 (es.take i)*4294967296^s=nb 4294967296 l+4294967296^(s+i)*c)∧(Rd wr D m cd es))
  (fun⟨wr,i,c,l'⟩=>N-(s+i))
  (⟨w,0,0,l⟩:a6×Nat×Nat×List Nat) ⟨Upd.refl g w,(by omega),(by decide),hb0,hl0,hwl,by simp [nb],hy⟩ rfl ⟨rfl,rfl,rfl,rfl,rfl,rfl,trivial⟩ ?_
 rintro⟨wr,i,c,l'⟩ ⟨hu,hi,hc,hb,hl,hwf,hv,rl1⟩
 refine cC [(0,.slice (some ⟨g,0,none⟩) N N),(1,.slice D m cd),(2,.int .u64 q),(3,.int .i64 s),(8,.int .u64 c),(9,.int .i64 i)] wr rfl ⟨rfl,rfl,rfl,rfl,rfl,rfl,trivial⟩ (aA (aA ?_))
 by_cases hsi:s+i<N
 · 
  by_cases him:i<m
  · 
   refine a7 (mv 2 rfl (aE rfl rfl rfl ((s+i:Nat):Int) (bF (a:=s) (b:=i) rfl rfl) (mv 1 rfl (pu (v:= .int .i64 N) rfl (aB rfl rfl rfl true (dB (a:=s+i) (b:=N) rfl rfl) (mv 3 rfl (pu (v:= .int .i64 m) rfl (aB rfl rfl rfl true (dB (a:=i) (b:=m) rfl rfl) (mv 3 rfl (pu (v:= .bool true) rfl (pu (v:= .bool true) rfl (a0 (aP rfl ?_)))))))))))))
   refine aN (aD (aA (bG (sr (mv 2 rfl (a0 (aA (sr (mv 2 rfl (pu (v:= .int .i64 m) rfl (aB rfl rfl rfl true (dB (a:=i) (b:=m) rfl rfl) (a0 (aP rfl ?_)))))))))))))
   have hey:=iY (b:=4294967296) hwe i
   have hm:q*(es.getD i 0)≤4294967295*4294967295:=jQ (by omega) (by omega)
   refine a7 (mv 4 rfl ?_)
   obtain⟨p1,hp1,hc1,hv1⟩:=(rl1).at (i:=i) (by omega)
   refine bT rfl rfl rfl bU bN i rfl p1 hp1 (aS rfl rfl (cZ d7 hc1) (aE rfl rfl rfl ((q*(es.getD i 0):Nat):Int) (lX (a:=q) (b:=es.getD i 0) rfl rfl) (aE rfl rfl rfl ((c+(q*(es.getD i 0)):Nat):Int) (eW (a:=c) (b:=q*(es.getD i 0)) rfl rfl) (mv 1 rfl (a0 (sr (mv 1 rfl (aE rfl rfl rfl (((c+(q*(es.getD i 0)))%4294967296:Nat):Int) (fC (a:=c+(q*(es.getD i 0))) (b:=4294967296) rfl rfl) (mv 1 rfl (a0 (sr (mv 1 rfl (aE rfl rfl rfl (((c+(q*(es.getD i 0)))/4294967296:Nat):Int) (iR (a:=c+(q*(es.getD i 0))) (b:=4294967296) rfl rfl) ?_)))))))))))))
   refine mv 1 rfl (a0 (aA ?_))
   have hd:=iY (b:=4294967296) hwf (s+i)
   by_cases hlow:l'.getD (s+i) 0<(c+(q*(es.getD i 0)))%4294967296
   · 
    refine a7 (mv 3 rfl (aE rfl rfl rfl ((s+i:Nat):Int) (bF (a:=s) (b:=i) rfl rfl) (bT rfl rfl rfl bU bN (s+i) rfl ⟨g,s+i,none⟩ (dP _ _) (aS rfl rfl (iW d7 hb (by rw [hl];omega)) (mv 1 rfl (aB rfl rfl rfl true (dB (a:=l'.getD (s+i) 0) (b:=(c+(q*(es.getD i 0)))%4294967296) rfl rfl) (a0 (aP rfl (sr (mv 3 rfl (aE rfl rfl rfl ((s+i:Nat):Int) (bF (a:=s) (b:=i) rfl rfl) (mv 3 rfl (aE rfl rfl rfl ((s+i:Nat):Int) (bF (a:=s) (b:=i) rfl rfl) ?_)))))))))))))
    refine bT rfl rfl rfl bU bN (s+i) rfl ⟨g,s+i,none⟩ (dP _ _) (aS rfl rfl (iW d7 hb (by rw [hl];omega)) (aE rfl rfl rfl (((l'.getD (s+i) 0)+4294967296:Nat):Int) (eW (a:=l'.getD (s+i) 0) (b:=4294967296) rfl rfl) (mv 1 rfl (aE rfl rfl rfl ((((l'.getD (s+i) 0)+4294967296)-((c+(q*(es.getD i 0)))%4294967296):Nat):Int) (qW (a:=(l'.getD (s+i) 0)+4294967296) (b:=(c+(q*(es.getD i 0)))%4294967296) rfl rfl) (bT rfl rfl rfl bU bN (s+i) rfl ⟨g,s+i,none⟩ (dP _ _) ?_)))))
    have hb3:=hb
    refine eB rfl rfl rfl bN rfl hb3 (fK (by rw [hl];omega)) rfl ((l'.set (s+i) (((l'.getD (s+i) 0)+4294967296)-((c+(q*(es.getD i 0)))%4294967296))).map aW) (eG _ _ _) fun v2 hb4 u5 hs6=>(a0 (a7 (mv 1 rfl (aE rfl rfl rfl ((((c+(q*(es.getD i 0)))/4294967296)+1:Nat):Int) (eW (a:=(c+(q*(es.getD i 0)))/4294967296) (b:=1) rfl rfl) (mv 1 rfl (aU (cA (aD (a7 (mv 1 rfl (aE rfl rfl rfl ((i+1:Nat):Int) (bF (a:=i) (b:=1) rfl rfl) (mv 1 rfl (aU ?_)))))))))))))
    refine cH (⟨v2,i+1,_,_⟩:a6×Nat×Nat×List Nat) ⟨hu.trans u5,(by omega),(by omega),hb4,(hJ (l:=l') (hl)),iX hwf _,xF hv rfl rfl (iL _ _ _ (by omega)),(Rd.updL rl1 u5 hne)⟩ (show N-(s+(i+1))<N-(s+i) by omega) rfl ⟨rfl,rfl,rfl,rfl,rfl,rfl,trivial⟩
   · 
    refine a7 (mv 3 rfl (aE rfl rfl rfl ((s+i:Nat):Int) (bF (a:=s) (b:=i) rfl rfl) (bT rfl rfl rfl bU bN (s+i) rfl ⟨g,s+i,none⟩ (dP _ _) (aS rfl rfl (iW d7 hb (by rw [hl];omega)) (mv 1 rfl (aB rfl rfl rfl false (cX (a:=l'.getD (s+i) 0) (b:=(c+(q*(es.getD i 0)))%4294967296) rfl rfl) (a0 (aI rfl (a7 (mv 3 rfl (aE rfl rfl rfl ((s+i:Nat):Int) (bF (a:=s) (b:=i) rfl rfl) (mv 3 rfl (aE rfl rfl rfl ((s+i:Nat):Int) (bF (a:=s) (b:=i) rfl rfl) ?_)))))))))))))
    refine bT rfl rfl rfl bU bN (s+i) rfl ⟨g,s+i,none⟩ (dP _ _) (aS rfl rfl (iW d7 hb (by rw [hl];omega)) (mv 1 rfl (aE rfl rfl rfl (((l'.getD (s+i) 0)-((c+(q*(es.getD i 0)))%4294967296):Nat):Int) (qW (a:=l'.getD (s+i) 0) (b:=(c+(q*(es.getD i 0)))%4294967296) rfl rfl) (bT rfl rfl rfl bU bN (s+i) rfl ⟨g,s+i,none⟩ (dP _ _) ?_))))
    have hb8:=hb
    refine eB rfl rfl rfl bN rfl hb8 (fK (by rw [hl];omega)) rfl ((l'.set (s+i) ((l'.getD (s+i) 0)-((c+(q*(es.getD i 0)))%4294967296))).map aW) (eG _ _ _) fun v7 hb9 u10 hs11=>(aU (cA (aD (a7 (mv 1 rfl (aE rfl rfl rfl ((i+1:Nat):Int) (bF (a:=i) (b:=1) rfl rfl) (mv 1 rfl (aU (cH (⟨v7,i+1,_,_⟩:a6×Nat×Nat×List Nat) ⟨hu.trans u10,(by omega),(by omega),hb9,(hJ (l:=l') (hl)),iX hwf _,xF hv rfl rfl (iL _ _ _ (by omega)),(Rd.updL rl1 u10 hne)⟩ (show N-(s+(i+1))<N-(s+i) by omega) rfl ⟨rfl,rfl,rfl,rfl,rfl,rfl,trivial⟩)))))))))
  · 
   by_cases hcp:c>0
   · 
    refine a7 (mv 2 rfl (aE rfl rfl rfl ((s+i:Nat):Int) (bF (a:=s) (b:=i) rfl rfl) (mv 1 rfl (pu (v:= .int .i64 N) rfl (aB rfl rfl rfl true (dB (a:=s+i) (b:=N) rfl rfl) (mv 3 rfl (pu (v:= .int .i64 m) rfl (aB rfl rfl rfl false (cX (a:=i) (b:=m) rfl rfl) (mv 2 rfl (aB rfl rfl rfl true (dJ (a:=c) (b:=0) rfl rfl) (pu (v:= .bool true) rfl (pu (v:= .bool true) rfl (aU ?_)))))))))))))
    refine aD (aP rfl (aN (aD (aA (bG (sr (mv 2 rfl (a0 (aA (sr (mv 2 rfl (pu (v:= .int .i64 m) rfl (aB rfl rfl rfl false (cX (a:=i) (b:=m) rfl rfl) ?_)))))))))))))
    refine a0 (aI rfl (aN (aD (sr (mv 1 rfl (aE rfl rfl rfl ((c%4294967296:Nat):Int) (fC (a:=c) (b:=4294967296) rfl rfl) (mv 1 rfl (a0 (sr (mv 1 rfl (aE rfl rfl rfl ((c/4294967296:Nat):Int) (iR (a:=c) (b:=4294967296) rfl rfl) (mv 1 rfl (aU ?_)))))))))))))
    refine aD (aA ?_)
    have hd:=iY (b:=4294967296) hwf (s+i)
    by_cases hlow:l'.getD (s+i) 0<c%4294967296
    · 
     refine a7 (mv 3 rfl (aE rfl rfl rfl ((s+i:Nat):Int) (bF (a:=s) (b:=i) rfl rfl) (bT rfl rfl rfl bU bN (s+i) rfl ⟨g,s+i,none⟩ (dP _ _) (aS rfl rfl (iW d7 hb (by rw [hl];omega)) (mv 1 rfl (aB rfl rfl rfl true (dB (a:=l'.getD (s+i) 0) (b:=c%4294967296) rfl rfl) (a0 (aP rfl (sr (mv 3 rfl (aE rfl rfl rfl ((s+i:Nat):Int) (bF (a:=s) (b:=i) rfl rfl) (mv 3 rfl (aE rfl rfl rfl ((s+i:Nat):Int) (bF (a:=s) (b:=i) rfl rfl) ?_)))))))))))))
     refine bT rfl rfl rfl bU bN (s+i) rfl ⟨g,s+i,none⟩ (dP _ _) (aS rfl rfl (iW d7 hb (by rw [hl];omega)) (aE rfl rfl rfl (((l'.getD (s+i) 0)+4294967296:Nat):Int) (eW (a:=l'.getD (s+i) 0) (b:=4294967296) rfl rfl) (mv 1 rfl (aE rfl rfl rfl ((((l'.getD (s+i) 0)+4294967296)-(c%4294967296):Nat):Int) (qW (a:=(l'.getD (s+i) 0)+4294967296) (b:=c%4294967296) rfl rfl) (bT rfl rfl rfl bU bN (s+i) rfl ⟨g,s+i,none⟩ (dP _ _) ?_)))))
     have hb13:=hb
     refine eB rfl rfl rfl bN rfl hb13 (fK (by rw [hl];omega)) rfl ((l'.set (s+i) (((l'.getD (s+i) 0)+4294967296)-(c%4294967296))).map aW) (eG _ _ _) fun v12 hb14 u15 hs16=>(a0 (a7 (mv 1 rfl (aE rfl rfl rfl (((c/4294967296)+1:Nat):Int) (eW (a:=c/4294967296) (b:=1) rfl rfl) (mv 1 rfl (aU (cA (aD (a7 (mv 1 rfl (aE rfl rfl rfl ((i+1:Nat):Int) (bF (a:=i) (b:=1) rfl rfl) (mv 1 rfl (aU ?_)))))))))))))
     refine cH (⟨v12,i+1,_,_⟩:a6×Nat×Nat×List Nat) ⟨hu.trans u15,(by omega),(by omega),hb14,(hJ (l:=l') (hl)),iX hwf _,xF hv rfl (T:=c) (e:=0) (by simp) (G1 (by omega)),(Rd.updL rl1 u15 hne)⟩ (show N-(s+(i+1))<N-(s+i) by omega) rfl ⟨rfl,rfl,rfl,rfl,rfl,rfl,trivial⟩
    · 
     refine a7 (mv 3 rfl (aE rfl rfl rfl ((s+i:Nat):Int) (bF (a:=s) (b:=i) rfl rfl) (bT rfl rfl rfl bU bN (s+i) rfl ⟨g,s+i,none⟩ (dP _ _) (aS rfl rfl (iW d7 hb (by rw [hl];omega)) (mv 1 rfl (aB rfl rfl rfl false (cX (a:=l'.getD (s+i) 0) (b:=c%4294967296) rfl rfl) (a0 (aI rfl (a7 (mv 3 rfl (aE rfl rfl rfl ((s+i:Nat):Int) (bF (a:=s) (b:=i) rfl rfl) (mv 3 rfl (aE rfl rfl rfl ((s+i:Nat):Int) (bF (a:=s) (b:=i) rfl rfl) ?_)))))))))))))
     refine bT rfl rfl rfl bU bN (s+i) rfl ⟨g,s+i,none⟩ (dP _ _) (aS rfl rfl (iW d7 hb (by rw [hl];omega)) (mv 1 rfl (aE rfl rfl rfl (((l'.getD (s+i) 0)-(c%4294967296):Nat):Int) (qW (a:=l'.getD (s+i) 0) (b:=c%4294967296) rfl rfl) (bT rfl rfl rfl bU bN (s+i) rfl ⟨g,s+i,none⟩ (dP _ _) ?_))))
     have hb18:=hb
     refine eB rfl rfl rfl bN rfl hb18 (fK (by rw [hl];omega)) rfl ((l'.set (s+i) ((l'.getD (s+i) 0)-(c%4294967296))).map aW) (eG _ _ _) fun v17 hb19 u20 hs21=>(aU (cA (aD (a7 (mv 1 rfl (aE rfl rfl rfl ((i+1:Nat):Int) (bF (a:=i) (b:=1) rfl rfl) (mv 1 rfl (aU (cH (⟨v17,i+1,_,_⟩:a6×Nat×Nat×List Nat) ⟨hu.trans u20,(by omega),(by omega),hb19,(hJ (l:=l') (hl)),iX hwf _,xF hv rfl (T:=c) (e:=0) (by simp) (G1 (by omega)),(Rd.updL rl1 u20 hne)⟩ (show N-(s+(i+1))<N-(s+i) by omega) rfl ⟨rfl,rfl,rfl,rfl,rfl,rfl,trivial⟩)))))))))
   · 
    refine a7 (mv 2 rfl (aE rfl rfl rfl ((s+i:Nat):Int) (bF (a:=s) (b:=i) rfl rfl) (mv 1 rfl (pu (v:= .int .i64 N) rfl (aB rfl rfl rfl true (dB (a:=s+i) (b:=N) rfl rfl) (mv 3 rfl (pu (v:= .int .i64 m) rfl (aB rfl rfl rfl false (cX (a:=i) (b:=m) rfl rfl) (mv 2 rfl (aB rfl rfl rfl false (d6 (a:=c) (b:=0) rfl rfl) (pu (v:= .bool false) rfl (pu (v:= .bool false) rfl (aU ?_)))))))))))))
    refine aD (aI rfl (cR (cN (cP (cQ (vW [] rfl trivial ?_))))))
    exact⟨rfl,hu,l',hb,hl,hwf,G2 hwf hl hle hs hi hq hv (bR ⟨by omega,by omega⟩)⟩
 · 
  refine a7 (mv 2 rfl (aE rfl rfl rfl ((s+i:Nat):Int) (bF (a:=s) (b:=i) rfl rfl) (mv 1 rfl (pu (v:= .int .i64 N) rfl (aB rfl rfl rfl false (cX (a:=s+i) (b:=N) rfl rfl) (mv 9 rfl (pu (v:= .bool false) rfl (a0 (aI rfl (cR (cN (cP (cQ ?_)))))))))))))
  refine vW [] rfl trivial ?_
  exact⟨rfl,hu,l',hb,hl,hwf,G2 hwf hl hle hs hi hq hv (cE (by omega))⟩
theorem lQ (h:k<xs.length)(b:Nat):nb b (xs.drop k)=xs.getD k 0+b*nb b (xs.drop (k+1)):=by
 rw [m4 h,lD,bC,cJ h];rfl
section
set_option linter.unusedSectionVars false
variable {xs es:List Nat}{n m s:Nat}(hx:xs.length=n) (he:es.length=m) (hs:s+m≤n) (hwx:Wfb 4294967296 xs) (hwe:Wfb 4294967296 es)
include hx he hs hwx hwe
theorem KV (hbig:nb 4294967296 xs<4294967296^(s+m+1))(h0:s+m<n→xs.getD (s+m) 0=0):nb 4294967296 (xs.drop (s+m))=nb 4294967296 (es.drop m):=by
 rw [List.drop_of_length_le (l:=es) (by omega),yL]
 by_cases hlt:s+m<n
 ·have h1:=mV 4294967296 xs (s+m)
  have h2:=lQ (xs:=xs) (k:=s+m) (by omega) 4294967296
  rw [h0 hlt,f9] at h2
  rw [h2] at h1⊢
  refine Nat.mul_eq_zero.2 (bR (Nat.eq_zero_of_not_pos fun hp=>?_))
  rw [cB,←bH] at*
  have h3:4294967296^(s+m)*4294967296*1≤4294967296^(s+m)*4294967296*nb 4294967296 (xs.drop (s+m+1)):=eF _ hp
  omega
 ·rw [List.drop_of_length_le (by omega),yL]
theorem YD (h0:s+m<n)(hp:0<xs.getD (s+m) 0):nb 4294967296 es*4294967296^s≤nb 4294967296 xs:=by
 have h1:=mV 4294967296 xs (s+m)
 have h2:=lQ (xs:=xs) (k:=s+m) (by omega) 4294967296
 have h3:=nX hwe
 rw [he] at h3
 have h4:nb 4294967296 es*4294967296^s≤4294967296^m*4294967296^s:=eA _ (Nat.le_of_lt h3)
 rw [←bX,Nat.add_comm m s] at h4
 have h5:4294967296^(s+m)*1≤4294967296^(s+m)*nb 4294967296 (xs.drop (s+m)):=eF _ (by omega)
 omega
theorem KW (hj:j<m)(h:nb 4294967296 (xs.drop (s+(j+1)))=nb 4294967296 (es.drop (j+1)))(hd:xs.getD (s+j) 0<es.getD j 0):¬nb 4294967296 es*4294967296^s≤nb 4294967296 xs:=by
 have h2:=lQ (xs:=xs) (k:=s+j) (by omega) 4294967296
 have h3:=lQ (xs:=es) (k:=j) (by omega) 4294967296
 rw [j0,h] at h2
 have h4:=mV 4294967296 xs (s+j)
 have h5:=mV 4294967296 es j
 have h6:=rO (by decide) hwx (s+j)
 have h7:4294967296^(s+j)*(nb 4294967296 (xs.drop (s+j))+1)≤4294967296^(s+j)*nb 4294967296 (es.drop j):=eF _ (by omega)
 have h8:4294967296^(s+j)*nb 4294967296 (es.drop j)≤nb 4294967296 es*4294967296^s:=by
  rw [h5,dX,bX,bH,bY (4294967296^s)]
  exact Nat.le_add_left _ _
 rw [cT] at h7
 omega
theorem KX (hj:j<m)(h:nb 4294967296 (xs.drop (s+(j+1)))=nb 4294967296 (es.drop (j+1)))(hd:xs.getD (s+j) 0>es.getD j 0):nb 4294967296 es*4294967296^s≤nb 4294967296 xs:=by
 have h2:=lQ (xs:=xs) (k:=s+j) (by omega) 4294967296
 have h3:=lQ (xs:=es) (k:=j) (by omega) 4294967296
 rw [j0,h] at h2
 have h4:=mV 4294967296 xs (s+j)
 have h5:=mV 4294967296 es j
 have h6:=rO (by decide) hwe j
 have h7:4294967296^j*(nb 4294967296 (es.drop j)+1)≤4294967296^j*nb 4294967296 (xs.drop (s+j)):=eF _ (by omega)
 rw [cT] at h7
 have h8:nb 4294967296 es≤4294967296^j*nb 4294967296 (xs.drop (s+j)):=by omega
 have h9:nb 4294967296 es*4294967296^s≤4294967296^j*nb 4294967296 (xs.drop (s+j))*4294967296^s:=eA _ h8
 have e:4294967296^j*nb 4294967296 (xs.drop (s+j))*4294967296^s=4294967296^(s+j)*nb 4294967296 (xs.drop (s+j)):=by
  rw [bX,kH,bY (4294967296^j)]
 omega
theorem KY (h:nb 4294967296 (xs.drop (s+0))=nb 4294967296 (es.drop 0)):nb 4294967296 es*4294967296^s≤nb 4294967296 xs:=by
 have h4:=mV 4294967296 xs s
 rw [dN,gU] at h
 rw [h4,h,bY]
 exact Nat.le_add_left _ _
theorem KU (hj:j<m)(h:nb 4294967296 (xs.drop (s+(j+1)))=nb 4294967296 (es.drop (j+1)))(hd:xs.getD (s+j) 0=es.getD j 0):nb 4294967296 (xs.drop (s+j))=nb 4294967296 (es.drop j):=by
 rw [lQ (xs:=xs) (k:=s+j) (by omega),lQ (xs:=es) (k:=j) (by omega),j0,h,hd]
end
set_option maxHeartbeats 4000000 in
theorem TM {w:a6}(hx:Rd w A n cap xs)(hln:n≤1099511627776)(hy:Rd w D m cd es)(hwx:Wfb 4294967296 xs)(hwe:Wfb 4294967296 es)(hs:s+m≤n)(hbig:nb 4294967296 xs<4294967296^(s+m+1)):
    aO aF 260 #[.slice A n cap,.slice D m cd,.int .i64 s] w (Gv w (Is (.bool (decide (nb 4294967296 es*4294967296^s≤nb 4294967296 xs))))):=by
 have hlen:=hx.len
 have hle:=hx.rv.le
 have hle2:=hy.len
 refine bK Tryz.func260 rfl (n:=53) rfl (bq rfl) (args:= [.slice A n cap,.slice D m cd,.int .i64 s]) (bE [(0,.slice A n cap),(1,.slice D m cd),(2,.int .i64 s)] ⟨rfl,rfl,rfl,trivial⟩ (sr (mv 1 rfl (a0 (sr (mv 2 rfl (pu (v:= .int .i64 m) rfl (aE rfl rfl rfl ((s+m:Nat):Int) (bF (a:=s) (b:=m) rfl rfl) (mv 1 rfl (a0 (aA (aA ?_))))))))))))
 by_cases htop:s+m<n
 · 
  by_cases hpos:xs.getD (s+m) 0>0
  · 
   refine a7 (mv 2 rfl (pu (v:= .int .i64 n) rfl (aB rfl rfl rfl true (dB (a:=s+m) (b:=n) rfl rfl) (mv 3 rfl ?_))))
   obtain⟨p1,hp1,hc1,hv1⟩:=(hx).at (i:=s+m) (by omega)
   refine bT rfl rfl rfl bU bN (s+m) rfl p1 hp1 (aS rfl rfl (cZ d7 hc1) (aB rfl rfl rfl true (dJ (a:=xs.getD (s+m) 0) (b:=0) rfl rfl) (pu (v:= .bool true) rfl (a0 (aP rfl (sr (mv 1 rfl (a0 (aM (bL (aL [.bool true] rfl ⟨rfl,trivial⟩ ?_)))))))))))
   exact⟨_,rfl,(show Value.bool true=_ by rw [decide_eq_true (YD hlen hle2 hs hwx hwe htop hpos)]),(Ext.refl w)⟩
  · 
   have hst:=KV hlen hle2 hs hwx hwe hbig (fun _=>by omega)
   refine a7 (mv 2 rfl (pu (v:= .int .i64 n) rfl (aB rfl rfl rfl true (dB (a:=s+m) (b:=n) rfl rfl) (mv 3 rfl ?_))))
   obtain⟨p2,hp2,hc2,hv2⟩:=(hx).at (i:=s+m) (by omega)
   refine bT rfl rfl rfl bU bN (s+m) rfl p2 hp2 (aS rfl rfl (cZ d7 hc2) (aB rfl rfl rfl false (d6 (a:=xs.getD (s+m) 0) (b:=0) rfl rfl) (pu (v:= .bool false) rfl (a0 (aI rfl (aN (aD (aA (sr (mv 1 rfl (pu (v:= .int .i64 m) rfl (aE rfl rfl rfl (((m:Nat):Int)-1) (dM rfl) (mv 1 rfl ?_)))))))))))))
   refine a0 (bG ?_)
   refine d4 (T:=a6×Nat×Int)
    (fun⟨wr,k,ii⟩=> [(0,.slice A n cap),(1,.slice D m cd),(2,.int .i64 s),(8,.int .i64 ii)])
    (fun⟨wr,k,ii⟩=>wr)
    (fun⟨wr,k,ii⟩=>(Ext w wr)∧(k≤m)∧(ii=(k:Int)-1)∧(nb 4294967296 (xs.drop (s+k))=nb 4294967296 (es.drop k))∧(Rd wr A n cap xs)∧(Rd wr D m cd es))
    (fun⟨wr,k,ii⟩=>k)
    (⟨w,m,_⟩:a6×Nat×Int) ⟨(Ext.refl w),b8 _,rfl,hst,hx,hy⟩ rfl ⟨rfl,rfl,rfl,rfl,trivial⟩ ?_
   rintro⟨wr,k,ii⟩ ⟨hw1,hk,hii,hv,rl0,rl1⟩
   refine cC [(0,.slice A n cap),(1,.slice D m cd),(2,.int .i64 s),(8,.int .i64 ii)] wr rfl ⟨rfl,rfl,rfl,rfl,trivial⟩ (aA (aA ?_))
   by_cases hkp:0<k
   · 
    obtain⟨j,rfl⟩:∃j,k=j+1:=⟨k-1,by omega⟩
    obtain rfl:ii=(j:Int):=by omega
    refine a7 (mv 1 rfl (aB rfl rfl rfl true (eI (a:=j) (b:=0) rfl rfl) (a0 (aP rfl (aN (aD (aA (bG (aA ?_)))))))))
    by_cases hne:xs.getD (s+j) 0≠es.getD j 0
    · 
     refine bE [(0,.slice A n cap),(1,.slice D m cd),(2,.int .i64 s),(8,.int .i64 j),(27,.int .i64 j),(28,.bool true)] ⟨rfl,rfl,rfl,rfl,rfl,rfl,trivial⟩ ?_
     obtain⟨v3,hv,e4⟩:∃v,v=wr.drew∧Ext wr v:=⟨_,rfl,(Ext.refl _).drew⟩
     have hw2:=hw1.trans e4
     obtain⟨p5,hp5,hc5,hv5⟩:=((rl0.ext e4)).at (i:=s+j) (by omega)
     obtain⟨p6,hp6,hc6,hv6⟩:=((rl1.ext e4)).at (i:=j) (by omega)
     refine nA eZ (w:=v3) [.slice A n cap,.int .i64 s,.int .i64 j,.int .i64 ((s+j:Nat):Int),.pointer (some p5),.int .u64 ((xs.getD (s+j) 0:Nat):Int),.slice D m cd,.int .i64 j,.pointer (some p6),.int .u64 ((es.getD j 0:Nat):Int),.bool true] [v3] [] [[],[],[],[1,2],[0,3],[4],[],[],[6,7],[8],[5,9]] [[],[],[],[1,2],[0,1,2,3],[0,1,2,3,4],[],[],[6,7],[6,7,8],[0,1,2,3,4,5,6,7,8,9]] [(0,0),(1,0),(2,0),(3,0),(4,0),(5,0),(6,0),(7,0),(8,0),(9,0),(10,0)] rfl hv ?_ ?_
     · 
      refine bI _ rfl rfl rfl rfl rfl (dO rfl) (bI _ rfl rfl rfl rfl rfl (dO rfl) (bI _ rfl rfl rfl rfl rfl (dO rfl) (bI _ rfl rfl rfl rfl rfl (lN rfl rfl ((s+j:Nat):Int) (bF (a:=s) (b:=j) rfl rfl)) (bI _ rfl rfl rfl rfl rfl (gX rfl rfl bU bN (s+j) rfl p5 hp5) (bI _ rfl rfl rfl rfl rfl (gW rfl (cZ d7 hc5)) (bI _ rfl rfl rfl rfl rfl (dO rfl) (bI _ rfl rfl rfl rfl rfl (dO rfl) (bI _ rfl rfl rfl rfl rfl (gX rfl rfl bU bN j rfl p6 hp6) (bI _ rfl rfl rfl rfl rfl (gW rfl (cZ d7 hc6)) (bI _ rfl rfl rfl rfl rfl (qE rfl rfl true (wC (a:=xs.getD (s+j) 0) (b:=es.getD j 0) rfl rfl)) ?_))))))))))
      exact mZ
     clear hv
     refine mD [(0,.slice A n cap),(1,.slice D m cd),(2,.int .i64 s),(8,.int .i64 j),(27,.int .i64 j),(28,.bool true),(31,.slice A n cap),(32,.int .i64 s),(33,.int .i64 j),(34,.int .i64 ((s+j:Nat):Int)),(35,.pointer (some p5)),(36,.int .u64 ((xs.getD (s+j) 0:Nat):Int)),(37,.slice D m cd),(38,.int .i64 j),(39,.pointer (some p6)),(40,.int .u64 ((es.getD j 0:Nat):Int)),(41,.bool true)] ⟨rfl,rfl,rfl,rfl,rfl,rfl,rfl,rfl,rfl,rfl,rfl,rfl,rfl,rfl,rfl,rfl,rfl,trivial⟩ (aD (aP rfl (aA ?_)))
     by_cases hgt:xs.getD (s+j) 0>es.getD j 0
     · 
      refine bE [(0,.slice A n cap),(1,.slice D m cd),(2,.int .i64 s),(8,.int .i64 j),(27,.int .i64 j),(28,.bool true),(31,.slice A n cap),(32,.int .i64 s),(33,.int .i64 j),(34,.int .i64 ((s+j:Nat):Int)),(35,.pointer (some p5)),(36,.int .u64 ((xs.getD (s+j) 0:Nat):Int)),(37,.slice D m cd),(38,.int .i64 j),(39,.pointer (some p6)),(40,.int .u64 ((es.getD j 0:Nat):Int)),(41,.bool true)] ⟨rfl,rfl,rfl,rfl,rfl,rfl,rfl,rfl,rfl,rfl,rfl,rfl,rfl,rfl,rfl,rfl,rfl,trivial⟩ ?_
      obtain⟨v7,hv,e8⟩:∃v,v=v3.drew∧Ext v3 v:=⟨_,rfl,(Ext.refl _).drew⟩
      have hw3:=hw2.trans e8
      refine nA eZ (w:=v7) [.slice A n cap,.int .i64 s,.int .i64 j,.int .i64 ((s+j:Nat):Int),.pointer (some p5),.int .u64 ((xs.getD (s+j) 0:Nat):Int),.slice D m cd,.int .i64 j,.pointer (some p6),.int .u64 ((es.getD j 0:Nat):Int),.bool true,.bool true] [v7] [] [[],[],[],[1,2],[0,3],[4],[],[],[6,7],[8],[5,9],[10]] [[],[],[],[1,2],[0,1,2,3],[0,1,2,3,4],[],[],[6,7],[6,7,8],[0,1,2,3,4,5,6,7,8,9],[0,1,2,3,4,5,6,7,8,9,10]] [(0,0),(1,0),(2,0),(3,0),(4,0),(5,0),(6,0),(7,0),(8,0),(9,0),(10,0),(11,0)] rfl hv ?_ ?_
      · 
       refine bI _ rfl rfl rfl rfl rfl (dO rfl) (bI _ rfl rfl rfl rfl rfl (dO rfl) (bI _ rfl rfl rfl rfl rfl (dO rfl) (bI _ rfl rfl rfl rfl rfl (lN rfl rfl ((s+j:Nat):Int) (bF (a:=s) (b:=j) rfl rfl)) (bI _ rfl rfl rfl rfl rfl (gX rfl rfl bU bN (s+j) rfl p5 hp5) (bI _ rfl rfl rfl rfl rfl (gW rfl (cZ d7 (e8.cell hc5))) (bI _ rfl rfl rfl rfl rfl (dO rfl) (bI _ rfl rfl rfl rfl rfl (dO rfl) (bI _ rfl rfl rfl rfl rfl (gX rfl rfl bU bN j rfl p6 hp6) (bI _ rfl rfl rfl rfl rfl (gW rfl (cZ d7 (e8.cell hc6))) (bI _ rfl rfl rfl rfl rfl (qE rfl rfl true (dJ (a:=xs.getD (s+j) 0) (b:=es.getD j 0) rfl rfl)) (bI _ rfl rfl rfl rfl rfl (yA rfl) ?_)))))))))))
       exact mZ
      clear hv
      refine mD [(0,.slice A n cap),(1,.slice D m cd),(2,.int .i64 s),(8,.int .i64 j),(27,.int .i64 j),(28,.bool true),(31,.slice A n cap),(32,.int .i64 s),(33,.int .i64 j),(34,.int .i64 ((s+j:Nat):Int)),(35,.pointer (some p5)),(36,.int .u64 ((xs.getD (s+j) 0:Nat):Int)),(37,.slice D m cd),(38,.int .i64 j),(39,.pointer (some p6)),(40,.int .u64 ((es.getD j 0:Nat):Int)),(41,.bool true),(42,.slice A n cap),(43,.int .i64 s),(44,.int .i64 j),(45,.int .i64 ((s+j:Nat):Int)),(46,.pointer (some p5)),(47,.int .u64 ((xs.getD (s+j) 0:Nat):Int)),(48,.slice D m cd),(49,.int .i64 j),(50,.pointer (some p6)),(51,.int .u64 ((es.getD j 0:Nat):Int)),(52,.bool true),(6,.bool true)] ⟨rfl,rfl,rfl,rfl,rfl,rfl,rfl,rfl,rfl,rfl,rfl,rfl,rfl,rfl,rfl,rfl,rfl,rfl,rfl,rfl,rfl,rfl,rfl,rfl,rfl,rfl,rfl,rfl,rfl,trivial⟩ (aD (aM (eC (bL (mY (eC (bL (aL [.bool true] rfl ⟨rfl,trivial⟩ ?_))))))))
      exact⟨_,rfl,(show Value.bool true=_ by rw [decide_eq_true (KX hlen hle2 hs hwx hwe (by omega) hv hgt)]),hw3⟩
     · 
      refine bE [(0,.slice A n cap),(1,.slice D m cd),(2,.int .i64 s),(8,.int .i64 j),(27,.int .i64 j),(28,.bool true),(31,.slice A n cap),(32,.int .i64 s),(33,.int .i64 j),(34,.int .i64 ((s+j:Nat):Int)),(35,.pointer (some p5)),(36,.int .u64 ((xs.getD (s+j) 0:Nat):Int)),(37,.slice D m cd),(38,.int .i64 j),(39,.pointer (some p6)),(40,.int .u64 ((es.getD j 0:Nat):Int)),(41,.bool true)] ⟨rfl,rfl,rfl,rfl,rfl,rfl,rfl,rfl,rfl,rfl,rfl,rfl,rfl,rfl,rfl,rfl,rfl,trivial⟩ ?_
      obtain⟨v9,hv,e10⟩:∃v,v=v3.drew∧Ext v3 v:=⟨_,rfl,(Ext.refl _).drew⟩
      have hw3:=hw2.trans e10
      refine nA eZ (w:=v9) [.slice A n cap,.int .i64 s,.int .i64 j,.int .i64 ((s+j:Nat):Int),.pointer (some p5),.int .u64 ((xs.getD (s+j) 0:Nat):Int),.slice D m cd,.int .i64 j,.pointer (some p6),.int .u64 ((es.getD j 0:Nat):Int),F0,F0] [v9] [] [[],[],[],[1,2],[0,3],[4],[],[],[6,7],[8],[5,9],[10]] [[],[],[],[1,2],[0,1,2,3],[0,1,2,3,4],[],[],[6,7],[6,7,8],[0,1,2,3,4,5,6,7,8,9],[0,1,2,3,4,5,6,7,8,9,10]] [(0,0),(1,0),(2,0),(3,0),(4,0),(5,0),(6,0),(7,0),(8,0),(9,0),(10,0),(11,0)] rfl hv ?_ ?_
      · 
       refine bI _ rfl rfl rfl rfl rfl (dO rfl) (bI _ rfl rfl rfl rfl rfl (dO rfl) (bI _ rfl rfl rfl rfl rfl (dO rfl) (bI _ rfl rfl rfl rfl rfl (lN rfl rfl ((s+j:Nat):Int) (bF (a:=s) (b:=j) rfl rfl)) (bI _ rfl rfl rfl rfl rfl (gX rfl rfl bU bN (s+j) rfl p5 hp5) (bI _ rfl rfl rfl rfl rfl (gW rfl (cZ d7 (e10.cell hc5))) (bI _ rfl rfl rfl rfl rfl (dO rfl) (bI _ rfl rfl rfl rfl rfl (dO rfl) (bI _ rfl rfl rfl rfl rfl (gX rfl rfl bU bN j rfl p6 hp6) (bI _ rfl rfl rfl rfl rfl (gW rfl (cZ d7 (e10.cell hc6))) (bI _ rfl rfl rfl rfl rfl (qE rfl rfl false (d6 (a:=xs.getD (s+j) 0) (b:=es.getD j 0) rfl rfl)) (bI _ rfl rfl rfl rfl rfl (yA rfl) ?_)))))))))))
       exact mZ
      clear hv
      refine mD [(0,.slice A n cap),(1,.slice D m cd),(2,.int .i64 s),(8,.int .i64 j),(27,.int .i64 j),(28,.bool true),(31,.slice A n cap),(32,.int .i64 s),(33,.int .i64 j),(34,.int .i64 ((s+j:Nat):Int)),(35,.pointer (some p5)),(36,.int .u64 ((xs.getD (s+j) 0:Nat):Int)),(37,.slice D m cd),(38,.int .i64 j),(39,.pointer (some p6)),(40,.int .u64 ((es.getD j 0:Nat):Int)),(41,.bool true),(42,.slice A n cap),(43,.int .i64 s),(44,.int .i64 j),(45,.int .i64 ((s+j:Nat):Int)),(46,.pointer (some p5)),(47,.int .u64 ((xs.getD (s+j) 0:Nat):Int)),(48,.slice D m cd),(49,.int .i64 j),(50,.pointer (some p6)),(51,.int .u64 ((es.getD j 0:Nat):Int)),(52,.bool false),(6,.bool false)] ⟨rfl,rfl,rfl,rfl,rfl,rfl,rfl,rfl,rfl,rfl,rfl,rfl,rfl,rfl,rfl,rfl,rfl,rfl,rfl,rfl,rfl,rfl,rfl,rfl,rfl,rfl,rfl,rfl,rfl,trivial⟩ (aD (aM (eC (bL (mY (eC (bL (aL [F0] rfl ⟨rfl,trivial⟩ ?_))))))))
      exact⟨_,rfl,(show Value.bool false=_ by rw [decide_eq_false (KW hlen hle2 hs hwx hwe (by omega) hv (by omega))]),hw3⟩
    · 
     refine bE [(0,.slice A n cap),(1,.slice D m cd),(2,.int .i64 s),(8,.int .i64 j),(27,.int .i64 j),(28,.bool true)] ⟨rfl,rfl,rfl,rfl,rfl,rfl,trivial⟩ ?_
     obtain⟨v11,hv,e12⟩:∃v,v=wr.drew∧Ext wr v:=⟨_,rfl,(Ext.refl _).drew⟩
     have hw2:=hw1.trans e12
     obtain⟨p13,hp13,hc13,hv13⟩:=((rl0.ext e12)).at (i:=s+j) (by omega)
     obtain⟨p14,hp14,hc14,hv14⟩:=((rl1.ext e12)).at (i:=j) (by omega)
     refine nA eZ (w:=v11) [.slice A n cap,.int .i64 s,.int .i64 j,.int .i64 ((s+j:Nat):Int),.pointer (some p13),.int .u64 ((xs.getD (s+j) 0:Nat):Int),.slice D m cd,.int .i64 j,.pointer (some p14),.int .u64 ((es.getD j 0:Nat):Int),F0] [v11] [] [[],[],[],[1,2],[0,3],[4],[],[],[6,7],[8],[5,9]] [[],[],[],[1,2],[0,1,2,3],[0,1,2,3,4],[],[],[6,7],[6,7,8],[0,1,2,3,4,5,6,7,8,9]] [(0,0),(1,0),(2,0),(3,0),(4,0),(5,0),(6,0),(7,0),(8,0),(9,0),(10,0)] rfl hv ?_ ?_
     · 
      refine bI _ rfl rfl rfl rfl rfl (dO rfl) (bI _ rfl rfl rfl rfl rfl (dO rfl) (bI _ rfl rfl rfl rfl rfl (dO rfl) (bI _ rfl rfl rfl rfl rfl (lN rfl rfl ((s+j:Nat):Int) (bF (a:=s) (b:=j) rfl rfl)) (bI _ rfl rfl rfl rfl rfl (gX rfl rfl bU bN (s+j) rfl p13 hp13) (bI _ rfl rfl rfl rfl rfl (gW rfl (cZ d7 hc13)) (bI _ rfl rfl rfl rfl rfl (dO rfl) (bI _ rfl rfl rfl rfl rfl (dO rfl) (bI _ rfl rfl rfl rfl rfl (gX rfl rfl bU bN j rfl p14 hp14) (bI _ rfl rfl rfl rfl rfl (gW rfl (cZ d7 hc14)) (bI _ rfl rfl rfl rfl rfl (qE rfl rfl false (lU (a:=xs.getD (s+j) 0) (b:=es.getD j 0) rfl rfl)) ?_))))))))))
      exact mZ
     clear hv
     refine mD [(0,.slice A n cap),(1,.slice D m cd),(2,.int .i64 s),(8,.int .i64 j),(27,.int .i64 j),(28,.bool true),(31,.slice A n cap),(32,.int .i64 s),(33,.int .i64 j),(34,.int .i64 ((s+j:Nat):Int)),(35,.pointer (some p13)),(36,.int .u64 ((xs.getD (s+j) 0:Nat):Int)),(37,.slice D m cd),(38,.int .i64 j),(39,.pointer (some p14)),(40,.int .u64 ((es.getD j 0:Nat):Int)),(41,.bool false)] ⟨rfl,rfl,rfl,rfl,rfl,rfl,rfl,rfl,rfl,rfl,rfl,rfl,rfl,rfl,rfl,rfl,rfl,trivial⟩ (aD (aI rfl (aN (cA (aD (a7 (mv 1 rfl (aE rfl rfl rfl (((j:Nat):Int)-1) (dM rfl) (mv 1 rfl (aU (cH (⟨v11,j,_⟩:a6×Nat×Int) ⟨hw2,(by omega),rfl,KU hlen hle2 hs hwx hwe (by omega) hv (by omega),(rl0.ext e12),(rl1.ext e12)⟩ (show j<j+1 by omega) rfl ⟨rfl,rfl,rfl,rfl,trivial⟩)))))))))))
   · 
    obtain rfl:k=0:=by omega
    refine a7 (mv 1 rfl (aB rfl rfl rfl false (jG) (a0 (aI rfl (cR (cN (cP (cQ (aD (sr (mv 1 rfl (a0 (aM ?_)))))))))))))
    refine aL [.bool true] rfl ⟨rfl,trivial⟩ ?_
    exact⟨_,rfl,(show Value.bool true=_ by rw [decide_eq_true (KY hlen hle2 hs hwx hwe hv)]),hw1⟩
 · 
  have hst:=KV hlen hle2 hs hwx hwe hbig (fun h=>absurd h htop)
  refine a7 (mv 2 rfl (pu (v:= .int .i64 n) rfl (aB rfl rfl rfl false (cX (a:=s+m) (b:=n) rfl rfl) (mv 6 rfl (pu (v:= .bool false) rfl (a0 (aI rfl (aN (aD (aA (sr (mv 1 rfl (pu (v:= .int .i64 m) rfl ?_)))))))))))))
  refine aE rfl rfl rfl (((m:Nat):Int)-1) (dM rfl) (mv 1 rfl (a0 (bG ?_)))
  refine d4 (T:=a6×Nat×Int)
   (fun⟨wr,k,ii⟩=> [(0,.slice A n cap),(1,.slice D m cd),(2,.int .i64 s),(8,.int .i64 ii)])
   (fun⟨wr,k,ii⟩=>wr)
   (fun⟨wr,k,ii⟩=>(Ext w wr)∧(k≤m)∧(ii=(k:Int)-1)∧(nb 4294967296 (xs.drop (s+k))=nb 4294967296 (es.drop k))∧(Rd wr A n cap xs)∧(Rd wr D m cd es))
   (fun⟨wr,k,ii⟩=>k)
   (⟨w,m,_⟩:a6×Nat×Int) ⟨(Ext.refl w),b8 _,rfl,hst,hx,hy⟩ rfl ⟨rfl,rfl,rfl,rfl,trivial⟩ ?_
  rintro⟨wr,k,ii⟩ ⟨hw1,hk,hii,hv,rl0,rl1⟩
  refine cC [(0,.slice A n cap),(1,.slice D m cd),(2,.int .i64 s),(8,.int .i64 ii)] wr rfl ⟨rfl,rfl,rfl,rfl,trivial⟩ (aA (aA ?_))
  by_cases hkp:0<k
  · 
   obtain⟨j,rfl⟩:∃j,k=j+1:=⟨k-1,by omega⟩
   obtain rfl:ii=(j:Int):=by omega
   refine a7 (mv 1 rfl (aB rfl rfl rfl true (eI (a:=j) (b:=0) rfl rfl) (a0 (aP rfl (aN (aD (aA (bG (aA ?_)))))))))
   by_cases hne:xs.getD (s+j) 0≠es.getD j 0
   · 
    refine bE [(0,.slice A n cap),(1,.slice D m cd),(2,.int .i64 s),(8,.int .i64 j),(27,.int .i64 j),(28,.bool true)] ⟨rfl,rfl,rfl,rfl,rfl,rfl,trivial⟩ ?_
    obtain⟨v15,hv,e16⟩:∃v,v=wr.drew∧Ext wr v:=⟨_,rfl,(Ext.refl _).drew⟩
    have hw2:=hw1.trans e16
    obtain⟨p17,hp17,hc17,hv17⟩:=((rl0.ext e16)).at (i:=s+j) (by omega)
    obtain⟨p18,hp18,hc18,hv18⟩:=((rl1.ext e16)).at (i:=j) (by omega)
    refine nA eZ (w:=v15) [.slice A n cap,.int .i64 s,.int .i64 j,.int .i64 ((s+j:Nat):Int),.pointer (some p17),.int .u64 ((xs.getD (s+j) 0:Nat):Int),.slice D m cd,.int .i64 j,.pointer (some p18),.int .u64 ((es.getD j 0:Nat):Int),.bool true] [v15] [] [[],[],[],[1,2],[0,3],[4],[],[],[6,7],[8],[5,9]] [[],[],[],[1,2],[0,1,2,3],[0,1,2,3,4],[],[],[6,7],[6,7,8],[0,1,2,3,4,5,6,7,8,9]] [(0,0),(1,0),(2,0),(3,0),(4,0),(5,0),(6,0),(7,0),(8,0),(9,0),(10,0)] rfl hv ?_ ?_
    · 
     refine bI _ rfl rfl rfl rfl rfl (dO rfl) (bI _ rfl rfl rfl rfl rfl (dO rfl) (bI _ rfl rfl rfl rfl rfl (dO rfl) (bI _ rfl rfl rfl rfl rfl (lN rfl rfl ((s+j:Nat):Int) (bF (a:=s) (b:=j) rfl rfl)) (bI _ rfl rfl rfl rfl rfl (gX rfl rfl bU bN (s+j) rfl p17 hp17) (bI _ rfl rfl rfl rfl rfl (gW rfl (cZ d7 hc17)) (bI _ rfl rfl rfl rfl rfl (dO rfl) (bI _ rfl rfl rfl rfl rfl (dO rfl) (bI _ rfl rfl rfl rfl rfl (gX rfl rfl bU bN j rfl p18 hp18) (bI _ rfl rfl rfl rfl rfl (gW rfl (cZ d7 hc18)) (bI _ rfl rfl rfl rfl rfl (qE rfl rfl true (wC (a:=xs.getD (s+j) 0) (b:=es.getD j 0) rfl rfl)) ?_))))))))))
     exact mZ
    clear hv
    refine mD [(0,.slice A n cap),(1,.slice D m cd),(2,.int .i64 s),(8,.int .i64 j),(27,.int .i64 j),(28,.bool true),(31,.slice A n cap),(32,.int .i64 s),(33,.int .i64 j),(34,.int .i64 ((s+j:Nat):Int)),(35,.pointer (some p17)),(36,.int .u64 ((xs.getD (s+j) 0:Nat):Int)),(37,.slice D m cd),(38,.int .i64 j),(39,.pointer (some p18)),(40,.int .u64 ((es.getD j 0:Nat):Int)),(41,.bool true)] ⟨rfl,rfl,rfl,rfl,rfl,rfl,rfl,rfl,rfl,rfl,rfl,rfl,rfl,rfl,rfl,rfl,rfl,trivial⟩ (aD (aP rfl (aA ?_)))
    by_cases hgt:xs.getD (s+j) 0>es.getD j 0
    · 
     refine bE [(0,.slice A n cap),(1,.slice D m cd),(2,.int .i64 s),(8,.int .i64 j),(27,.int .i64 j),(28,.bool true),(31,.slice A n cap),(32,.int .i64 s),(33,.int .i64 j),(34,.int .i64 ((s+j:Nat):Int)),(35,.pointer (some p17)),(36,.int .u64 ((xs.getD (s+j) 0:Nat):Int)),(37,.slice D m cd),(38,.int .i64 j),(39,.pointer (some p18)),(40,.int .u64 ((es.getD j 0:Nat):Int)),(41,.bool true)] ⟨rfl,rfl,rfl,rfl,rfl,rfl,rfl,rfl,rfl,rfl,rfl,rfl,rfl,rfl,rfl,rfl,rfl,trivial⟩ ?_
     obtain⟨v19,hv,e20⟩:∃v,v=v15.drew∧Ext v15 v:=⟨_,rfl,(Ext.refl _).drew⟩
     have hw3:=hw2.trans e20
     refine nA eZ (w:=v19) [.slice A n cap,.int .i64 s,.int .i64 j,.int .i64 ((s+j:Nat):Int),.pointer (some p17),.int .u64 ((xs.getD (s+j) 0:Nat):Int),.slice D m cd,.int .i64 j,.pointer (some p18),.int .u64 ((es.getD j 0:Nat):Int),.bool true,.bool true] [v19] [] [[],[],[],[1,2],[0,3],[4],[],[],[6,7],[8],[5,9],[10]] [[],[],[],[1,2],[0,1,2,3],[0,1,2,3,4],[],[],[6,7],[6,7,8],[0,1,2,3,4,5,6,7,8,9],[0,1,2,3,4,5,6,7,8,9,10]] [(0,0),(1,0),(2,0),(3,0),(4,0),(5,0),(6,0),(7,0),(8,0),(9,0),(10,0),(11,0)] rfl hv ?_ ?_
     · 
      refine bI _ rfl rfl rfl rfl rfl (dO rfl) (bI _ rfl rfl rfl rfl rfl (dO rfl) (bI _ rfl rfl rfl rfl rfl (dO rfl) (bI _ rfl rfl rfl rfl rfl (lN rfl rfl ((s+j:Nat):Int) (bF (a:=s) (b:=j) rfl rfl)) (bI _ rfl rfl rfl rfl rfl (gX rfl rfl bU bN (s+j) rfl p17 hp17) (bI _ rfl rfl rfl rfl rfl (gW rfl (cZ d7 (e20.cell hc17))) (bI _ rfl rfl rfl rfl rfl (dO rfl) (bI _ rfl rfl rfl rfl rfl (dO rfl) (bI _ rfl rfl rfl rfl rfl (gX rfl rfl bU bN j rfl p18 hp18) (bI _ rfl rfl rfl rfl rfl (gW rfl (cZ d7 (e20.cell hc18))) (bI _ rfl rfl rfl rfl rfl (qE rfl rfl true (dJ (a:=xs.getD (s+j) 0) (b:=es.getD j 0) rfl rfl)) (bI _ rfl rfl rfl rfl rfl (yA rfl) ?_)))))))))))
      exact mZ
     clear hv
     refine mD [(0,.slice A n cap),(1,.slice D m cd),(2,.int .i64 s),(8,.int .i64 j),(27,.int .i64 j),(28,.bool true),(31,.slice A n cap),(32,.int .i64 s),(33,.int .i64 j),(34,.int .i64 ((s+j:Nat):Int)),(35,.pointer (some p17)),(36,.int .u64 ((xs.getD (s+j) 0:Nat):Int)),(37,.slice D m cd),(38,.int .i64 j),(39,.pointer (some p18)),(40,.int .u64 ((es.getD j 0:Nat):Int)),(41,.bool true),(42,.slice A n cap),(43,.int .i64 s),(44,.int .i64 j),(45,.int .i64 ((s+j:Nat):Int)),(46,.pointer (some p17)),(47,.int .u64 ((xs.getD (s+j) 0:Nat):Int)),(48,.slice D m cd),(49,.int .i64 j),(50,.pointer (some p18)),(51,.int .u64 ((es.getD j 0:Nat):Int)),(52,.bool true),(6,.bool true)] ⟨rfl,rfl,rfl,rfl,rfl,rfl,rfl,rfl,rfl,rfl,rfl,rfl,rfl,rfl,rfl,rfl,rfl,rfl,rfl,rfl,rfl,rfl,rfl,rfl,rfl,rfl,rfl,rfl,rfl,trivial⟩ (aD (aM (eC (bL (mY (eC (bL (aL [.bool true] rfl ⟨rfl,trivial⟩ ?_))))))))
     exact⟨_,rfl,(show Value.bool true=_ by rw [decide_eq_true (KX hlen hle2 hs hwx hwe (by omega) hv hgt)]),hw3⟩
    · 
     refine bE [(0,.slice A n cap),(1,.slice D m cd),(2,.int .i64 s),(8,.int .i64 j),(27,.int .i64 j),(28,.bool true),(31,.slice A n cap),(32,.int .i64 s),(33,.int .i64 j),(34,.int .i64 ((s+j:Nat):Int)),(35,.pointer (some p17)),(36,.int .u64 ((xs.getD (s+j) 0:Nat):Int)),(37,.slice D m cd),(38,.int .i64 j),(39,.pointer (some p18)),(40,.int .u64 ((es.getD j 0:Nat):Int)),(41,.bool true)] ⟨rfl,rfl,rfl,rfl,rfl,rfl,rfl,rfl,rfl,rfl,rfl,rfl,rfl,rfl,rfl,rfl,rfl,trivial⟩ ?_
     obtain⟨v21,hv,e22⟩:∃v,v=v15.drew∧Ext v15 v:=⟨_,rfl,(Ext.refl _).drew⟩
     have hw3:=hw2.trans e22
     refine nA eZ (w:=v21) [.slice A n cap,.int .i64 s,.int .i64 j,.int .i64 ((s+j:Nat):Int),.pointer (some p17),.int .u64 ((xs.getD (s+j) 0:Nat):Int),.slice D m cd,.int .i64 j,.pointer (some p18),.int .u64 ((es.getD j 0:Nat):Int),F0,F0] [v21] [] [[],[],[],[1,2],[0,3],[4],[],[],[6,7],[8],[5,9],[10]] [[],[],[],[1,2],[0,1,2,3],[0,1,2,3,4],[],[],[6,7],[6,7,8],[0,1,2,3,4,5,6,7,8,9],[0,1,2,3,4,5,6,7,8,9,10]] [(0,0),(1,0),(2,0),(3,0),(4,0),(5,0),(6,0),(7,0),(8,0),(9,0),(10,0),(11,0)] rfl hv ?_ ?_
     · 
      refine bI _ rfl rfl rfl rfl rfl (dO rfl) (bI _ rfl rfl rfl rfl rfl (dO rfl) (bI _ rfl rfl rfl rfl rfl (dO rfl) (bI _ rfl rfl rfl rfl rfl (lN rfl rfl ((s+j:Nat):Int) (bF (a:=s) (b:=j) rfl rfl)) (bI _ rfl rfl rfl rfl rfl (gX rfl rfl bU bN (s+j) rfl p17 hp17) (bI _ rfl rfl rfl rfl rfl (gW rfl (cZ d7 (e22.cell hc17))) (bI _ rfl rfl rfl rfl rfl (dO rfl) (bI _ rfl rfl rfl rfl rfl (dO rfl) (bI _ rfl rfl rfl rfl rfl (gX rfl rfl bU bN j rfl p18 hp18) (bI _ rfl rfl rfl rfl rfl (gW rfl (cZ d7 (e22.cell hc18))) (bI _ rfl rfl rfl rfl rfl (qE rfl rfl false (d6 (a:=xs.getD (s+j) 0) (b:=es.getD j 0) rfl rfl)) (bI _ rfl rfl rfl rfl rfl (yA rfl) ?_)))))))))))
      exact mZ
     clear hv
     refine mD [(0,.slice A n cap),(1,.slice D m cd),(2,.int .i64 s),(8,.int .i64 j),(27,.int .i64 j),(28,.bool true),(31,.slice A n cap),(32,.int .i64 s),(33,.int .i64 j),(34,.int .i64 ((s+j:Nat):Int)),(35,.pointer (some p17)),(36,.int .u64 ((xs.getD (s+j) 0:Nat):Int)),(37,.slice D m cd),(38,.int .i64 j),(39,.pointer (some p18)),(40,.int .u64 ((es.getD j 0:Nat):Int)),(41,.bool true),(42,.slice A n cap),(43,.int .i64 s),(44,.int .i64 j),(45,.int .i64 ((s+j:Nat):Int)),(46,.pointer (some p17)),(47,.int .u64 ((xs.getD (s+j) 0:Nat):Int)),(48,.slice D m cd),(49,.int .i64 j),(50,.pointer (some p18)),(51,.int .u64 ((es.getD j 0:Nat):Int)),(52,.bool false),(6,.bool false)] ⟨rfl,rfl,rfl,rfl,rfl,rfl,rfl,rfl,rfl,rfl,rfl,rfl,rfl,rfl,rfl,rfl,rfl,rfl,rfl,rfl,rfl,rfl,rfl,rfl,rfl,rfl,rfl,rfl,rfl,trivial⟩ (aD (aM (eC (bL (mY (eC (bL (aL [F0] rfl ⟨rfl,trivial⟩ ?_))))))))
     exact⟨_,rfl,(show Value.bool false=_ by rw [decide_eq_false (KW hlen hle2 hs hwx hwe (by omega) hv (by omega))]),hw3⟩
   · 
    refine bE [(0,.slice A n cap),(1,.slice D m cd),(2,.int .i64 s),(8,.int .i64 j),(27,.int .i64 j),(28,.bool true)] ⟨rfl,rfl,rfl,rfl,rfl,rfl,trivial⟩ ?_
    obtain⟨v23,hv,iE⟩:∃v,v=wr.drew∧Ext wr v:=⟨_,rfl,(Ext.refl _).drew⟩
    have hw2:=hw1.trans iE
    obtain⟨p25,hp25,hc25,hv25⟩:=((rl0.ext iE)).at (i:=s+j) (by omega)
    obtain⟨p26,hp26,hc26,hv26⟩:=((rl1.ext iE)).at (i:=j) (by omega)
    refine nA eZ (w:=v23) [.slice A n cap,.int .i64 s,.int .i64 j,.int .i64 ((s+j:Nat):Int),.pointer (some p25),.int .u64 ((xs.getD (s+j) 0:Nat):Int),.slice D m cd,.int .i64 j,.pointer (some p26),.int .u64 ((es.getD j 0:Nat):Int),F0] [v23] [] [[],[],[],[1,2],[0,3],[4],[],[],[6,7],[8],[5,9]] [[],[],[],[1,2],[0,1,2,3],[0,1,2,3,4],[],[],[6,7],[6,7,8],[0,1,2,3,4,5,6,7,8,9]] [(0,0),(1,0),(2,0),(3,0),(4,0),(5,0),(6,0),(7,0),(8,0),(9,0),(10,0)] rfl hv ?_ ?_
    · 
     refine bI _ rfl rfl rfl rfl rfl (dO rfl) (bI _ rfl rfl rfl rfl rfl (dO rfl) (bI _ rfl rfl rfl rfl rfl (dO rfl) (bI _ rfl rfl rfl rfl rfl (lN rfl rfl ((s+j:Nat):Int) (bF (a:=s) (b:=j) rfl rfl)) (bI _ rfl rfl rfl rfl rfl (gX rfl rfl bU bN (s+j) rfl p25 hp25) (bI _ rfl rfl rfl rfl rfl (gW rfl (cZ d7 hc25)) (bI _ rfl rfl rfl rfl rfl (dO rfl) (bI _ rfl rfl rfl rfl rfl (dO rfl) (bI _ rfl rfl rfl rfl rfl (gX rfl rfl bU bN j rfl p26 hp26) (bI _ rfl rfl rfl rfl rfl (gW rfl (cZ d7 hc26)) (bI _ rfl rfl rfl rfl rfl (qE rfl rfl false (lU (a:=xs.getD (s+j) 0) (b:=es.getD j 0) rfl rfl)) ?_))))))))))
     exact mZ
    clear hv
    refine mD [(0,.slice A n cap),(1,.slice D m cd),(2,.int .i64 s),(8,.int .i64 j),(27,.int .i64 j),(28,.bool true),(31,.slice A n cap),(32,.int .i64 s),(33,.int .i64 j),(34,.int .i64 ((s+j:Nat):Int)),(35,.pointer (some p25)),(36,.int .u64 ((xs.getD (s+j) 0:Nat):Int)),(37,.slice D m cd),(38,.int .i64 j),(39,.pointer (some p26)),(40,.int .u64 ((es.getD j 0:Nat):Int)),(41,.bool false)] ⟨rfl,rfl,rfl,rfl,rfl,rfl,rfl,rfl,rfl,rfl,rfl,rfl,rfl,rfl,rfl,rfl,rfl,trivial⟩ (aD (aI rfl (aN (cA (aD (a7 (mv 1 rfl (aE rfl rfl rfl (((j:Nat):Int)-1) (dM rfl) (mv 1 rfl (aU (cH (⟨v23,j,_⟩:a6×Nat×Int) ⟨hw2,(by omega),rfl,KU hlen hle2 hs hwx hwe (by omega) hv (by omega),(rl0.ext iE),(rl1.ext iE)⟩ (show j<j+1 by omega) rfl ⟨rfl,rfl,rfl,rfl,trivial⟩)))))))))))
  · 
   obtain rfl:k=0:=by omega
   refine a7 (mv 1 rfl (aB rfl rfl rfl false (jG) (a0 (aI rfl (cR (cN (cP (cQ (aD (sr (mv 1 rfl (a0 (aM ?_)))))))))))))
   refine aL [.bool true] rfl ⟨rfl,trivial⟩ ?_
   exact⟨_,rfl,(show Value.bool true=_ by rw [decide_eq_true (KY hlen hle2 hs hwx hwe hv)]),hw1⟩
theorem K1 (hi:i<l.length):l.getD i 0*b^i≤nb b l:=by
 rw [mV b l i,lQ hi,cT,bY (l.getD i 0)]
 omega
theorem a0w (h:q*y+r=x)(hr:r<y):q=x/y∧r=x%y:=by
 subst h
 rw [bY]
 constructor
 ·rw [nH (by omega),gT hr];rfl
 ·rw [wN,fG hr]
theorem CJ (hb:0<b)(hm:0<m)(hl:es.length=m)(ht:es.getD (m-1) 0≠0):b^(m-1)≤nb b es:=by
 refine aG ?_ (K1 (b:=b) (l:=es) (i:=m-1) (by omega))
 exact Nat.le_mul_of_pos_left _ (by omega)
theorem WL (hb:0<b)(hm:0<m)(hl:es.length=m)(ht:es.getD (m-1) 0≠0):0<nb b es:=dF (eP hb) (CJ hb hm hl ht)
theorem QZ (hw:Wfb 4294967296 xs)(hn:xs.length=n)(hl:es.length=m)(h:n<m)(ht:es.getD (m-1) 0≠0):nb 4294967296 xs<nb 4294967296 es:=by
 have h1:=nX hw
 rw [hn] at h1
 have h2:=CJ (b:=4294967296) (by decide) (by omega) hl ht
 have h3:4294967296^n≤4294967296^(m-1):=dU (by decide) (by omega)
 omega
theorem y8 {w:a6}{b:Bool}(hx:Rd w A n cap xs)(hy:Rd w D m cd es)(hwx:Wfb 4294967296 xs)(hwe:Wfb 4294967296 es)(hbig:nb 4294967296 xs<4294967296^(s+m+1))(hb:decide (nb 4294967296 es*4294967296^s≤nb 4294967296 xs)=b)(hln:n≤1099511627776:=by omega)(hs:s+m≤n:=by omega):
  aO aF 260 #[.slice A n cap,.slice D m cd,.int .i64 (s:Int)] w (Gv w (Is (.bool b))):=hb▸TM hx hln hy hwx hwe hs hbig
theorem WN {i':Nat}(h:i+1=i')(hi:i'<l.length):(l.getD i 0+l.getD i' 0*b)*b^i≤nb b l:=by
 subst h
 rw [mV b l i,lQ (k:=i) (by omega),lQ (k:=i+1) hi,bY,bY (l.getD (i+1) 0)]
 refine aG (eF _ ?_) (Nat.le_add_left _ _)
 rw [cT]
 omega
theorem a0k (hw:Wfb 4294967296 l)(hk:k≤l.length)(h0:0<k)(hv:nb 4294967296 (l.take k)=nb 4294967296 l):nb 4294967296 l<(l.getD (k-1) 0+1)*4294967296^(k-1):=by
 obtain⟨j,rfl⟩:∃j,k=j+1:=⟨k-1,by omega⟩
 rw [←hv,iL 4294967296 l j (by omega),Nat.add_sub_cancel,dX,Nat.one_mul,bY (l.getD j 0)]
 have:=rO (by decide) hw j
 omega
theorem LO {D hd t:Nat}(hD:D<hd*4294967296^(k-1))(hk:0<k)(ht:t*4294967296^(j+k-1)≤R):t/hd*D*4294967296^j≤R:=by
 have h1:t/hd*D≤t/hd*(hd*4294967296^(k-1)):=eF _ (Nat.le_of_lt hD)
 have h2:t/hd*(hd*4294967296^(k-1))≤t*4294967296^(k-1):=by
  rw [←bH]
  exact eA _ (Nat.div_mul_le_self t hd)
 have h3:=eA (4294967296^j) (aG h1 h2)
 rw [bH t,←bX,show k-1+j=j+k-1 by omega] at h3
 exact aG h3 ht
theorem vX {D:Nat}(h:n*D*4294967296^j≤R)(hR:R<D*4294967296^(j+1)):n<4294967296:=by
 refine Nat.lt_of_not_le fun hn=>?_
 have h1:4294967296*D*4294967296^j≤n*D*4294967296^j:=eA _ (eA _ hn)
 have h2:4294967296*D*4294967296^j=D*4294967296^(j+1):=by rw [cB];grind
 omega
structure DO (Z D k:Nat)(lq lr:List Nat):Prop where
 wq:Wfb 4294967296 lq
 wr:Wfb 4294967296 lr
 v:nb 4294967296 lq*D+nb 4294967296 lr=Z
 lt:nb 4294967296 lr<D*4294967296^k
 z:∀i,i<k→lq.getD i 0=0
structure DI (Z D j:Nat)(lq lr:List Nat):Prop where
 wq:Wfb 4294967296 lq
 wr:Wfb 4294967296 lr
 v:nb 4294967296 lq*D+nb 4294967296 lr=Z
 lt:lq.getD j 0*(D*4294967296^j)+nb 4294967296 lr<D*4294967296^(j+1)
 z:∀i,i<j→lq.getD i 0=0
theorem YE (k i:Nat):(bP k 0).getD i 0=0:=by
 rw [bC]
 by_cases h:i<k
 ·rw [List.getElem?_replicate_of_lt h];rfl
 ·rw [kM (by rw [List.length_replicate];omega)];rfl
theorem DO.start (hw:Wfb 4294967296 lr)(hr:nb 4294967296 lr=X*f)(hd:nb 4294967296 ld=Y*f)(hf:1≤f)(hX:X<4294967296^n)(hY:4294967296^(m-1)≤Y)(hm:0<m)(hmn:m≤n):
  DO (X*f) (nb 4294967296 ld) (n-m+1) (bP (n-m+1) 0) lr:=by
 refine⟨pL _,hw,by rw [vK,hr];omega,?_,fun i _=>YE _ i⟩
 rw [hr,hd]
 have h1:4294967296^n=4294967296^(m-1)*4294967296^(n-m+1):=by rw [←bX];congr 1;omega
 have h2:4294967296^(m-1)*4294967296^(n-m+1)≤Y*4294967296^(n-m+1):=eA _ hY
 rw [kH]
 exact Nat.mul_lt_mul_of_pos_right (by omega) hf
theorem DO.enter {D:Nat}(h:DO Z D (j+1) lq lr):DI Z D j lq lr:=⟨h.wq,h.wr,h.v,by rw [h.z j (by omega),iZ,f9];exact h.lt,fun i hi=>h.z i (by omega)⟩
theorem DI.leave {D:Nat}(h:DI Z D j lq lr)(hn:¬D*4294967296^j≤nb 4294967296 lr):DO Z D j lq lr:=⟨h.wq,h.wr,h.v,by omega,h.z⟩
theorem DI.sum {D:Nat}(h:DI Z D j lq lr)(hv:nb 4294967296 l'+n*D*4294967296^j=nb 4294967296 lr):(lq.getD j 0+n)*(D*4294967296^j)+nb 4294967296 l'<D*4294967296^(j+1):=by
 have h1:=h.lt
 rw [dX,←bH n]
 omega
theorem DI.digit {D:Nat}(h:DI Z D j lq lr)(hv:nb 4294967296 l'+n*D*4294967296^j=nb 4294967296 lr):lq.getD j 0+n<4294967296:=by
 have h1:=h.sum hv
 refine vX (R:=(lq.getD j 0+n)*D*4294967296^j) (b8 _) ?_
 rw [bH];omega
theorem DI.step {D:Nat}(h:DI Z D j lq lr)(hj:j<lq.length)(hw:Wfb 4294967296 l')(hv:nb 4294967296 l'+n*D*4294967296^j=nb 4294967296 lr):DI Z D j (lq.set j (lq.getD j 0+n)) l':=by
 refine⟨iX h.wq _ (hx:=(h.digit hv)),hw,?_,?_,fun i hi=>by rw [getD_set_ne (by omega),h.z i hi]⟩
 ·have h1:=vM 4294967296 hj (lq.getD j 0+n)
  rw [cT] at h1
  have h2:nb 4294967296 (lq.set j (lq.getD j 0+n))=nb 4294967296 lq+4294967296^j*n:=by omega
  have h3:=h.v
  have h4:4294967296^j*n*D=n*D*4294967296^j:=by grind
  rw [h2,dX,h4]
  omega
 ·rw [tK hj];exact h.sum hv
theorem zG {D:Nat}(hn:1≤n)(hD:0<D)(hv:nb 4294967296 l'+n*D*4294967296^j=nb 4294967296 lr):nb 4294967296 l'<nb 4294967296 lr:=by
 have:0<n*D*4294967296^j:=fS (fS hn hD) (eP (by decide))
 omega
theorem zH {D:Nat}(h:DI Z D j lq lr)(hd:nb 4294967296 ld=D)(hw:Wfb 4294967296 ld)(hv:nb 4294967296 (ld.take k)=nb 4294967296 ld):nb 4294967296 lr<4294967296^(j+k+1):=by
 have h1:=rO (by decide) hw k
 rw [hv,hd] at h1
 have h2:=h.lt
 have h3:D*4294967296^(j+1)≤4294967296^k*4294967296^(j+1):=eA _ (Nat.le_of_lt h1)
 rw [←bX,show k+(j+1)=j+k+1 by omega] at h3
 omega
structure DF (f:Nat)(l0:List Nat)(k rest:Nat)(l:List Nat):Prop where
 len:l.length=l0.length
 wf:Wfb 4294967296 l
 rf:rest<f
 v:nb 4294967296 (l0.drop k)=nb 4294967296 (l.drop k)*f+rest
 same:∀i,i<k→l.getD i 0=l0.getD i 0
theorem DF.start (hw:Wfb 4294967296 l0)(hf:1≤f)(hl:l0.length=n):DF f l0 n 0 l0:=⟨rfl,hw,hf,by rw [List.drop_of_length_le (by omega),yL,iZ],fun _ _=>rfl⟩
theorem DF.step (h:DF f l0 (j+1) rest l)(hj:j<l0.length)(hd:(rest*4294967296+l.getD j 0)/f<4294967296)(hf:1≤f):DF f l0 j ((rest*4294967296+l.getD j 0)%f) (l.set j ((rest*4294967296+l.getD j 0)/f)):=by
 refine⟨by rw [List.length_set,h.len],iX h.wf _ (hx:=hd),eO _ hf,?_,fun i hi=>by rw [getD_set_ne (by omega),h.same i (by omega)]⟩
 rw [lQ hj,lQ (xs:=l.set j _) (k:=j) (by rw [List.length_set,h.len];exact hj),tK (by rw [h.len];exact hj),h.v,←h.same j (by omega),List.drop_set_of_lt (by omega)]
 have e:=iA (rest*4294967296+l.getD j 0) f
 generalize (rest*4294967296+l.getD j 0)/f=Q at*
 generalize (rest*4294967296+l.getD j 0)%f=R at*
 have e2:(Q+4294967296*nb 4294967296 (List.drop (j+1) l))*f=f*Q+4294967296*(nb 4294967296 (List.drop (j+1) l)*f):=by grind
 rw [e2]
 omega
theorem DF.digit (h:DF f l0 (j+1) rest l):(rest*4294967296+l.getD j 0)/f<4294967296:=by
 have h1:=iY (b:=4294967296) h.wf j
 have h2:=h.rf
 rw [k0 (by omega)]
 have h3:(rest+1)*4294967296≤f*4294967296:=eA _ h2
 rw [bY 4294967296 f]
 omega
theorem a0l (h:DO (X*f) (nb 4294967296 ld) 0 lq lr)(hd:nb 4294967296 ld=Y*f)(hF:DF f lr 0 rest l):nb 4294967296 lq=X/Y∧nb 4294967296 l=X%Y:=by
 have h1:=h.v
 have h2:=h.lt
 have h3:=hF.v
 have h4:=hF.rf
 rw [gU,gU] at h3
 rw [hd,Nat.pow_zero,cI] at h2
 rw [hd] at h1
 have e:(nb 4294967296 lq*Y+nb 4294967296 l)*f+rest=X*f:=by rw [dX,bH];omega
 have h0:rest=0:=by
  have:=congrArg (· %f) e
  simp only [Nat.mul_mod_left,Nat.add_comm _ rest,Nat.add_mul_mod_self_right] at this
  rwa [fG h4] at this
 rw [h0,dN] at e h3
 have e2:=Nat.eq_of_mul_eq_mul_right (by omega:0<f) e
 have h5:nb 4294967296 l<Y:=by
  rw [h3] at h2
  exact Nat.lt_of_mul_lt_mul_right h2
 have:=a0w (x:=X) (y:=Y) e2 h5
 exact this
set_option maxHeartbeats 4000000 in
theorem TO {w:a6}(hx:Rd w A n cap xs)(hln:n≤274877906944)(hy:Rd w D m cd es)(hlm:m≤274877906944)(hwx:Wfb 4294967296 xs)(hwe:Wfb 4294967296 es)(hxt:n=0∨xs.getD (n-1) 0≠0)(hm0:0<m)(htop:es.getD (m-1) 0≠0):
  aO aF 230 #[.slice A n cap,.slice D m cd] w (Gv w (T2 (WD (nb 4294967296 xs/nb 4294967296 es)) (WD (nb 4294967296 xs%nb 4294967296 es)))):=by
 have hlen:=hx.len
 have hle:=hx.rv.le
 have hlem:=hy.len
 have hle2:=hy.rv.le
 refine bK Tryz.func230 rfl (n:=143) rfl (bq rfl) (args:= [.slice A n cap,.slice D m cd]) (bE [(0,.slice A n cap),(1,.slice D m cd)] ⟨rfl,rfl,trivial⟩ (sr (mv 2 rfl (a0 (aA (aA ?_))))))
 by_cases hnm:n<m
 ·
  refine a7 (mv 1 rfl (pu (v:= .int .i64 n) rfl (mv 1 rfl (pu (v:= .int .i64 m) rfl (aB rfl rfl rfl true (dB (a:=n) (b:=m) rfl rfl) (a0 (aP rfl (sr (mv 3 rfl (a0 (aM (bL (aL [S0,.slice A n cap] rfl ⟨rfl,rfl,trivial⟩ ?_)))))))))))))
  have hlt:=QZ hwx hlen hlem hnm htop
  refine⟨_,rfl,⟨_,_,rfl,⟨_,_,_,rfl,?_⟩,⟨_,_,_,rfl,?_⟩⟩,(Ext.refl w)⟩
  ·rw [gT hlt];exact Rd.nil _
  ·rw [fG hlt,DM lI hwx (by rw [hlen];exact hxt)];exact hx
 ·
  refine a7 (mv 1 rfl (pu (v:= .int .i64 n) rfl (mv 1 rfl (pu (v:= .int .i64 m) rfl (aB rfl rfl rfl false (cX (a:=n) (b:=m) rfl rfl) (a0 (aI rfl (aN (aD (aA ?_))))))))))
  have htb:=iY (b:=4294967296) hwe (m-1)
  refine a7 (mv 1 rfl (a0 (aA (bG ?_))))
  refine d4 (T:=a6×Nat)
   (fun⟨wr,f⟩=> [(0,.slice A n cap),(1,.slice D m cd),(6,.int .u64 f)])
   (fun⟨wr,f⟩=>wr)
   (fun⟨wr,f⟩=>(Ext w wr)∧(1≤f)∧(f≤4294967295)∧(Rd wr A n cap xs)∧(Rd wr D m cd es))
   (fun⟨wr,f⟩=>4294967296-f)
   (⟨w,1⟩:a6×Nat) ⟨(Ext.refl w),(by decide),(by decide),hx,hy⟩ rfl ⟨rfl,rfl,rfl,trivial⟩ ?_
  rintro⟨wr,f⟩ ⟨hw1,hf1,hf2,rl0,rl1⟩
  refine cC [(0,.slice A n cap),(1,.slice D m cd),(6,.int .u64 f)] wr rfl ⟨rfl,rfl,rfl,trivial⟩ (aA (aA ?_))
  have hm:(es.getD (m-1) 0)*f≤4294967295*4294967295:=jQ (by omega) (by omega)
  by_cases hmul:(es.getD (m-1) 0)*f<2147483648
  ·
   have hm2:1*f≤(es.getD (m-1) 0)*f:=eA _ (by omega)
   refine a7 (mv 2 rfl (pu (v:= .int .i64 m) rfl (aE rfl rfl rfl ((m-1:Nat):Int) (eR (a:=m) (b:=1) rfl rfl) ?_)))
   obtain⟨p1,hp1,hc1,hv1⟩:=(rl1).at (i:=m-1) (by omega)
   refine bT rfl rfl rfl bU bN (m-1) rfl p1 hp1 (aS rfl rfl (cZ d7 hc1) (mv 1 rfl (aE rfl rfl rfl (((es.getD (m-1) 0)*f:Nat):Int) (lX (a:=es.getD (m-1) 0) (b:=f) rfl rfl) (aB rfl rfl rfl true (dB (a:=(es.getD (m-1) 0)*f) (b:=2147483648) rfl rfl) (a0 (aP rfl (aN (aD (bG (a7 (mv 1 rfl (aE rfl rfl rfl ((2*f:Nat):Int) (lX (a:=2) (b:=f) rfl rfl) (mv 1 rfl ?_)))))))))))))
   refine aU (cA (cH (⟨wr,2*f⟩:a6×Nat) ⟨hw1,(by omega),(by omega),rl0,rl1⟩ (show 4294967296-2*f<4294967296-f by omega) rfl ⟨rfl,rfl,rfl,trivial⟩))
  ·
   refine a7 (mv 2 rfl (pu (v:= .int .i64 m) rfl (aE rfl rfl rfl ((m-1:Nat):Int) (eR (a:=m) (b:=1) rfl rfl) ?_)))
   obtain⟨p2,hp2,hc2,hv2⟩:=(rl1).at (i:=m-1) (by omega)
   refine bT rfl rfl rfl bU bN (m-1) rfl p2 hp2 (aS rfl rfl (cZ d7 hc2) (mv 1 rfl (aE rfl rfl rfl (((es.getD (m-1) 0)*f:Nat):Int) (lX (a:=es.getD (m-1) 0) (b:=f) rfl rfl) (aB rfl rfl rfl false (cX (a:=(es.getD (m-1) 0)*f) (b:=2147483648) rfl rfl) (a0 (aI rfl (cR (cN (cP (cQ (aD (sr (mv 1 rfl ?_)))))))))))))
   refine mv 1 rfl (cl (vs:= [.slice A n cap,.int .u64 f]) hw1 (I4 rl0 (by omega) hwx hf2) rfl (by kernel_rfl) fun xr5 v3 r5 e4 hw2=>?_)
   obtain⟨g6,l6,rfl,gb6,hb6,hl6,hwf6,hnv6⟩:=r5
   have ge7:w.heap.size≤g6:=aG hw1.size gb6
   have ne8:0<cap→∀a,A=some a→a.block≠g6:=fun hc a ha=>by have:=(rl0).rv.blk a ha hc;omega
   have ne9:0<cd→∀a,D=some a→a.block≠g6:=fun hc a ha=>by have:=(rl1).rv.blk a ha hc;omega
   refine mv 1 rfl (a0 (sr (mv 2 rfl (cl (vs:= [.slice D m cd,.int .u64 f]) hw2 (I4 (rl1.ext e4) (by omega) hwe hf2) rfl (by kernel_rfl) fun xr12 v10 r12 e11 hw3=>?_))))
   obtain⟨g13,l13,rfl,gb13,hb13,hl13,hwf13,hnv13⟩:=r12
   have ge14:w.heap.size≤g13:=aG hw2.size gb13
   have q15:g6<g13:=dF hb6.lt gb13
   have ne16:0<cap→∀a,A=some a→a.block≠g13:=fun hc a ha=>by have:=((rl0.ext e4)).rv.blk a ha hc;omega
   have ne17:0<cd→∀a,D=some a→a.block≠g13:=fun hc a ha=>by have:=((rl1.ext e4)).rv.blk a ha hc;omega
   refine mv 1 rfl (a0 (sr (mv 1 rfl (cl (vs:= [.slice (some ⟨g13,0,none⟩) (m+1) (m+1)]) hw3 (tA (hb13.rd0 hwf13.wf hl13 (by omega))) rfl (by kernel_rfl) fun xr20 v18 r20 e19 hw4=>?_))))
   obtain⟨k21,rfl,hk21,ht21,hv21⟩:=r20
   refine mv 1 rfl (a0 (aA ?_))
   have hD:=hnv13
   have hvd:=hv21 4294967296
   have hY0:=WL (b:=4294967296) (by decide) (by omega) hlem htop
   have hDp:0<nb 4294967296 l13:=by rw [hD];exact fS hY0 hf1
   have hkp:0<k21:=by refine Nat.pos_of_ne_zero fun e=>?_;rw [e] at hvd;simp only [List.take_zero,yL] at hvd;omega
   have hhd:=a0k hwf13 (by omega) hkp hvd
   have htopd:=iY (b:=4294967296) hwf13 (k21-1)
   refine a7 (mv 1 rfl (pu (v:= .int .i64 n) rfl (mv 1 rfl (pu (v:= .int .i64 m) rfl (aE rfl rfl rfl ((n-m:Nat):Int) (eR (a:=n) (b:=m) rfl rfl) (aE rfl rfl rfl (((n-m)+1:Nat):Int) (bF (a:=n-m) (b:=1) rfl rfl) (l7 rfl (k:=(n-m)+1) rfl rfl rfl bU jE rfl fun g22 v23 hg24 hb25 e26=>?_)))))))
   rw [kR] at hb25
   have ge27:w.heap.size≤g22:=by rw [←hg24];exact hw4.size
   have q29:g6<g22:=by rw [←hg24];exact (hb6.ext (e11.trans e19)).lt
   have q30:g13<g22:=by rw [←hg24];exact (hb13.ext e19).lt
   have ne31:0<cap→∀a,A=some a→a.block≠g22:=fun hc a ha=>by have:=((rl0.ext (e4.trans (e11.trans e19)))).rv.blk a ha hc;omega
   have ne32:0<cd→∀a,D=some a→a.block≠g22:=fun hc a ha=>by have:=((rl1.ext (e4.trans (e11.trans e19)))).rv.blk a ha hc;omega
   clear hg24
   have hw5:=hw4.trans e26
   refine mv 1 rfl (a0 (sr (mv 2 rfl (pu (v:= .int .i64 k21) rfl (aE rfl rfl rfl ((k21-1:Nat):Int) (eR (a:=k21) (b:=1) rfl rfl) (bT rfl rfl rfl bU bN (k21-1) rfl ⟨g13,k21-1,none⟩ (dP _ _) (aS rfl rfl (iW d7 (hb13.ext (e19.trans e26)) (by rw [hl13];omega)) (aE rfl rfl rfl (((l13.getD (k21-1) 0)+1:Nat):Int) (eW (a:=l13.getD (k21-1) 0) (b:=1) rfl rfl) (mv 1 rfl (a0 (aA (sr (mv 1 rfl ?_)))))))))))))
   refine pu (v:= .int .i64 n) rfl (mv 1 rfl (pu (v:= .int .i64 m) rfl (aE rfl rfl rfl ((n-m:Nat):Int) (eR (a:=n) (b:=m) rfl rfl) (mv 1 rfl (a0 (bG ?_))))))
   refine d4 (T:=a6×Nat×Int×List Nat×List Nat)
    (fun⟨wr,k,ii,lq,lr⟩=> [(6,.int .u64 f),(7,.slice (some ⟨g6,0,none⟩) (n+1) (n+1)),(8,.slice (some ⟨g13,0,none⟩) k21 (m+1)),(9,.slice (some ⟨g22,0,none⟩) ((n-m)+1) ((n-m)+1)),(10,.int .u64 (((l13.getD (k21-1) 0)+1:Nat):Int)),(11,.int .i64 ii)])
    (fun⟨wr,k,ii,lq,lr⟩=>wr)
    (fun⟨wr,k,ii,lq,lr⟩=>(Ext w wr)∧(k≤n-m+1)∧(ii=(k:Int)-1)∧(Bk wr g6 65 (lr.map aW))∧(lr.length=n+1)∧(Bk wr g13 65 (l13.map aW))∧(Bk wr g22 65 (lq.map aW))∧(lq.length=n-m+1)∧(DO (nb 4294967296 xs*f) (nb 4294967296 l13) k lq lr))
    (fun⟨wr,k,ii,lq,lr⟩=>k)
    (⟨v23,n-m+1,_,_,_⟩:a6×Nat×Int×List Nat×List Nat) ⟨hw5,b8 _,(by omega),(hb6.ext (e11.trans (e19.trans e26))),hl6,(hb13.ext (e19.trans e26)),hb25,(List.length_replicate (n:=(n-m)+1) (a:=0)),DO.start hwf6 hnv6 hD hf1 (by have:=nX hwx;rwa [hlen] at this) (CJ (by decide) (by omega) hlem htop) (by omega) (by omega)⟩ rfl ⟨rfl,rfl,rfl,rfl,rfl,rfl,trivial⟩ ?_
   rintro⟨wr,k,ii,lq,lr⟩ ⟨hw1,hk,hii,hbr,hlr,hbd,hbq,hlq,hO⟩
   refine cC [(6,.int .u64 f),(7,.slice (some ⟨g6,0,none⟩) (n+1) (n+1)),(8,.slice (some ⟨g13,0,none⟩) k21 (m+1)),(9,.slice (some ⟨g22,0,none⟩) ((n-m)+1) ((n-m)+1)),(10,.int .u64 (((l13.getD (k21-1) 0)+1:Nat):Int)),(11,.int .i64 ii)] wr rfl ⟨rfl,rfl,rfl,rfl,rfl,rfl,trivial⟩ (aA (aA ?_))
   by_cases hk0:0<k
   ·
    obtain⟨j,rfl⟩:∃j,k=j+1:=⟨k-1,by omega⟩
    obtain rfl:ii=(j:Int):=by omega
    refine a7 (mv 1 rfl (aB rfl rfl rfl true (eI (a:=j) (b:=0) rfl rfl) (a0 (aP rfl (aN (aD (aA (bG (bG ?_)))))))))
    have hE:=hO.enter
    clear hO
    refine d4 (T:=a6×List Nat×List Nat)
     (fun⟨wr,lq,lr⟩=> [(6,.int .u64 f),(7,.slice (some ⟨g6,0,none⟩) (n+1) (n+1)),(8,.slice (some ⟨g13,0,none⟩) k21 (m+1)),(9,.slice (some ⟨g22,0,none⟩) ((n-m)+1) ((n-m)+1)),(10,.int .u64 (((l13.getD (k21-1) 0)+1:Nat):Int)),(11,.int .i64 j)])
     (fun⟨wr,lq,lr⟩=>wr)
     (fun⟨wr,lq,lr⟩=>(Ext w wr)∧(Bk wr g6 65 (lr.map aW))∧(lr.length=n+1)∧(Bk wr g13 65 (l13.map aW))∧(Bk wr g22 65 (lq.map aW))∧(lq.length=n-m+1)∧(DI (nb 4294967296 xs*f) (nb 4294967296 l13) j lq lr))
     (fun⟨wr,lq,lr⟩=>nb 4294967296 lr)
     (⟨wr,_,_⟩:a6×List Nat×List Nat) ⟨hw1,hbr,hlr,hbd,hbq,hlq,hE⟩ rfl ⟨rfl,rfl,rfl,rfl,rfl,rfl,trivial⟩ ?_
    rintro⟨wr,lq,lr⟩ ⟨hw1,hbr,hlr,hbd,hbq,hlq,hI⟩
    refine cC [(6,.int .u64 f),(7,.slice (some ⟨g6,0,none⟩) (n+1) (n+1)),(8,.slice (some ⟨g13,0,none⟩) k21 (m+1)),(9,.slice (some ⟨g22,0,none⟩) ((n-m)+1) ((n-m)+1)),(10,.int .u64 (((l13.getD (k21-1) 0)+1:Nat):Int)),(11,.int .i64 j)] wr rfl ⟨rfl,rfl,rfl,rfl,rfl,rfl,trivial⟩ (bG (aA ?_))
    have hwr:=hI.wr
    have hb1:=iY (b:=4294967296) hwr ((j+k21)-1)
    have hb2:=iY (b:=4294967296) hwr (j+k21)
    by_cases hjk:j+k21<n+1
    ·
     have hT:=WN (b:=4294967296) (l:=lr) (i:=(j+k21)-1) (i':=j+k21) (by omega) (by omega)
     refine a7 (mv 3 rfl (pu (v:= .int .i64 k21) rfl (aE rfl rfl rfl ((j+k21:Nat):Int) (bF (a:=j) (b:=k21) rfl rfl) (aE rfl rfl rfl (((j+k21)-1:Nat):Int) (eR (a:=j+k21) (b:=1) rfl rfl) (bT rfl rfl rfl bU bN ((j+k21)-1) rfl ⟨g6,(j+k21)-1,none⟩ (dP _ _) (aS rfl rfl (iW d7 hbr (by rw [hlr];omega)) (mv 1 rfl (a0 (aA (sr (mv 2 rfl (pu (v:= .int .i64 k21) rfl (aE rfl rfl rfl ((j+k21:Nat):Int) (bF (a:=j) (b:=k21) rfl rfl) ?_)))))))))))))
     refine mv 1 rfl (pu (v:= .int .i64 (((n+1):Nat):Int)) rfl (aB rfl rfl rfl true (dB (a:=j+k21) (b:=n+1) rfl rfl) (a0 (aP rfl (a7 (mv 4 rfl (pu (v:= .int .i64 k21) rfl (aE rfl rfl rfl ((j+k21:Nat):Int) (bF (a:=j) (b:=k21) rfl rfl) (bT rfl rfl rfl bU bN (j+k21) rfl ⟨g6,j+k21,none⟩ (dP _ _) (aS rfl rfl (iW d7 hbr (by rw [hlr];omega)) (aE rfl rfl rfl (((lr.getD (j+k21) 0)*4294967296:Nat):Int) (lX (a:=lr.getD (j+k21) 0) (b:=4294967296) rfl rfl) (aE rfl rfl rfl (((lr.getD ((j+k21)-1) 0)+((lr.getD (j+k21) 0)*4294967296):Nat):Int) (eW (a:=lr.getD ((j+k21)-1) 0) (b:=(lr.getD (j+k21) 0)*4294967296) rfl rfl) (mv 1 rfl ?_)))))))))))))
     refine a0 (aA ?_)
     have hfit:=LO hhd hkp hT
     have hRlt:nb 4294967296 lr<nb 4294967296 l13*4294967296^(j+1):=iH (Nat.le_add_left _ _) hI.lt
     by_cases hn0:((lr.getD ((j+k21)-1) 0)+((lr.getD (j+k21) 0)*4294967296))/((l13.getD (k21-1) 0)+1)=0
     ·
      by_cases hgo:nb 4294967296 l13*4294967296^j≤nb 4294967296 lr
      ·
       have hgo1:1*nb 4294967296 l13*4294967296^j≤nb 4294967296 lr:=by rw [Nat.one_mul];exact hgo
       refine a7 (mv 2 rfl (aE rfl rfl rfl ((((lr.getD ((j+k21)-1) 0)+((lr.getD (j+k21) 0)*4294967296))/((l13.getD (k21-1) 0)+1):Nat):Int) (iR (a:=(lr.getD ((j+k21)-1) 0)+((lr.getD (j+k21) 0)*4294967296)) (b:=(l13.getD (k21-1) 0)+1) rfl rfl) (mv 1 rfl (a0 (aA (sr (mv 1 rfl (aB rfl rfl rfl true (dA (a:=((lr.getD ((j+k21)-1) 0)+((lr.getD (j+k21) 0)*4294967296))/((l13.getD (k21-1) 0)+1)) (b:=0) rfl rfl) (a0 (aP rfl (sr (mv 3 rfl (cl (vs:= [.slice (some ⟨g6,0,none⟩) (n+1) (n+1),.slice (some ⟨g13,0,none⟩) k21 (m+1),.int .i64 j]) hw1 (y8 (b:=true) (hbr.rd0 hwr.wf hlr (by omega)) ((hbd.rd0 hwf13.wf hl13 (by omega)).take (k:=k21) (by omega) (by omega) (b8 _)) hwr (kF hwf13 _) (zH hI rfl hwf13 hvd) (by rw [hvd,decide_eq_true hgo])) rfl (by kernel_rfl) fun xr35 v33 r35 e34 hw2=>?_)))))))))))))
       obtain rfl:=r35
       refine mv 1 rfl (a0 (aA (sr (mv 1 rfl (pu (v:= .bool false) rfl (a0 (aI rfl (aN (aD (a7 (mv 1 rfl (a0 (aA ?_)))))))))))))
       refine a7 (mv 4 rfl ?_)
       have hqlt:=vX hgo1 hRlt
       refine dD rfl rfl (vs:= [.slice (some ⟨g6,0,none⟩) (n+1) (n+1),.slice (some ⟨g13,0,none⟩) k21 (m+1),.int .u64 1,.int .i64 j]) (by kernel_rfl) (by decide) (y7 (q:=1) (s:=j) (hbr.ext e34) hlr hwr (((hbd.ext e34).rd0 hwf13.wf hl13 (by omega)).take (k:=k21) (by omega) (by omega) (b8 _)) (kF hwf13 _) (fun _ a ha=>by cases ha;show g13≠g6;omega) hqlt (by rw [hvd];exact hgo1)) ?_
       rintro _ v36 ⟨rfl,u37,l3,hb38,hl39,hwl3,hv3⟩
       rw [hvd] at hv3
       refine dE ?_
       have hdg:=hI.digit hv3
       have hw3:=u37.ext hw2 ge7
       refine a0 (a7 (mv 4 rfl (bT rfl rfl rfl bU bN j rfl ⟨g22,j,none⟩ (dP _ _) (aS rfl rfl (iW d7 ((hbq.ext e34).updN u37 (by omega)) (by rw [hlq];omega)) (mv 1 rfl (aE rfl rfl rfl (((lq.getD j 0)+1:Nat):Int) (eW (a:=lq.getD j 0) (b:=1) rfl rfl) (bT rfl rfl rfl bU bN j rfl ⟨g22,j,none⟩ (dP _ _) ?_)))))))
       have hb41:=((hbq.ext e34).updN u37 (by omega))
       refine eB rfl rfl rfl bN rfl hb41 (fK (by rw [hlq];omega)) rfl ((lq.set j ((lq.getD j 0)+1)).map aW) (eG _ _ _) fun v40 hb42 u43 hs44=>?_
       have hw4:=u43.ext hw3 ge27
       refine aU (cA (cH (⟨v40,_,_⟩:a6×List Nat×List Nat) ⟨hw4,(hb38.updN u43 (by omega)),hl39,(((hbd.ext e34).updN u37 (by omega)).updN u43 (by omega)),hb42,(hJ (l:=lq) (hlq)),hI.step (by omega) hwl3 hv3⟩ (zG (b8 1) hDp hv3) rfl ⟨rfl,rfl,rfl,rfl,rfl,rfl,trivial⟩))
      ·
       refine a7 (mv 2 rfl (aE rfl rfl rfl ((((lr.getD ((j+k21)-1) 0)+((lr.getD (j+k21) 0)*4294967296))/((l13.getD (k21-1) 0)+1):Nat):Int) (iR (a:=(lr.getD ((j+k21)-1) 0)+((lr.getD (j+k21) 0)*4294967296)) (b:=(l13.getD (k21-1) 0)+1) rfl rfl) (mv 1 rfl (a0 (aA (sr (mv 1 rfl (aB rfl rfl rfl true (dA (a:=((lr.getD ((j+k21)-1) 0)+((lr.getD (j+k21) 0)*4294967296))/((l13.getD (k21-1) 0)+1)) (b:=0) rfl rfl) (a0 (aP rfl (sr (mv 3 rfl (cl (vs:= [.slice (some ⟨g6,0,none⟩) (n+1) (n+1),.slice (some ⟨g13,0,none⟩) k21 (m+1),.int .i64 j]) hw1 (y8 (b:=false) (hbr.rd0 hwr.wf hlr (by omega)) ((hbd.rd0 hwf13.wf hl13 (by omega)).take (k:=k21) (by omega) (by omega) (b8 _)) hwr (kF hwf13 _) (zH hI rfl hwf13 hvd) (by rw [hvd,decide_eq_false hgo])) rfl (by kernel_rfl) fun xr47 v45 r47 lF hw2=>?_)))))))))))))
       obtain rfl:=r47
       refine mv 1 rfl (a0 (aA (sr (mv 1 rfl (pu (v:= .bool true) rfl (a0 (aP rfl (cR (cN (cN (D3 (cP (cQ ?_)))))))))))))
       refine cA (aD (a7 (mv 1 rfl (aE rfl rfl rfl (((j:Nat):Int)-1) (dM rfl) (mv 1 rfl (aU (cH (⟨v45,j,_,_,_⟩:a6×Nat×Int×List Nat×List Nat) ⟨hw2,(by omega),(by omega),(hbr.ext lF),hlr,(hbd.ext lF),(hbq.ext lF),hlq,hI.leave hgo⟩ (show j<j+1 by omega) rfl ⟨rfl,rfl,rfl,rfl,rfl,rfl,trivial⟩)))))))
     ·
      refine a7 (mv 2 rfl (aE rfl rfl rfl ((((lr.getD ((j+k21)-1) 0)+((lr.getD (j+k21) 0)*4294967296))/((l13.getD (k21-1) 0)+1):Nat):Int) (iR (a:=(lr.getD ((j+k21)-1) 0)+((lr.getD (j+k21) 0)*4294967296)) (b:=(l13.getD (k21-1) 0)+1) rfl rfl) (mv 1 rfl (a0 (aA (sr (mv 1 rfl (aB rfl rfl rfl false (dC (a:=((lr.getD ((j+k21)-1) 0)+((lr.getD (j+k21) 0)*4294967296))/((l13.getD (k21-1) 0)+1)) (b:=0) rfl rfl) (a0 (aI rfl (aN (aD (aA ?_)))))))))))))
      refine a7 (mv 4 rfl ?_)
      have hqlt:=vX hfit hRlt
      refine dD rfl rfl (vs:= [.slice (some ⟨g6,0,none⟩) (n+1) (n+1),.slice (some ⟨g13,0,none⟩) k21 (m+1),.int .u64 ((((lr.getD ((j+k21)-1) 0)+((lr.getD (j+k21) 0)*4294967296))/((l13.getD (k21-1) 0)+1):Nat):Int),.int .i64 j]) (by kernel_rfl) (by decide) (y7 (q:=((lr.getD ((j+k21)-1) 0)+((lr.getD (j+k21) 0)*4294967296))/((l13.getD (k21-1) 0)+1)) (s:=j) hbr hlr hwr ((hbd.rd0 hwf13.wf hl13 (by omega)).take (k:=k21) (by omega) (by omega) (b8 _)) (kF hwf13 _) (fun _ a ha=>by cases ha;show g13≠g6;omega) hqlt (by rw [hvd];exact hfit)) ?_
      rintro _ v48 ⟨rfl,u49,l3,hb50,hl51,hwl3,hv3⟩
      rw [hvd] at hv3
      refine dE ?_
      have hdg:=hI.digit hv3
      have hw2:=u49.ext hw1 ge7
      refine a0 (a7 (mv 4 rfl (bT rfl rfl rfl bU bN j rfl ⟨g22,j,none⟩ (dP _ _) (aS rfl rfl (iW d7 (hbq.updN u49 (by omega)) (by rw [hlq];omega)) (mv 1 rfl (aE rfl rfl rfl (((lq.getD j 0)+(((lr.getD ((j+k21)-1) 0)+((lr.getD (j+k21) 0)*4294967296))/((l13.getD (k21-1) 0)+1)):Nat):Int) (eW (a:=lq.getD j 0) (b:=((lr.getD ((j+k21)-1) 0)+((lr.getD (j+k21) 0)*4294967296))/((l13.getD (k21-1) 0)+1)) rfl rfl) (bT rfl rfl rfl bU bN j rfl ⟨g22,j,none⟩ (dP _ _) ?_)))))))
      have hb53:=(hbq.updN u49 (by omega))
      refine eB rfl rfl rfl bN rfl hb53 (fK (by rw [hlq];omega)) rfl ((lq.set j ((lq.getD j 0)+(((lr.getD ((j+k21)-1) 0)+((lr.getD (j+k21) 0)*4294967296))/((l13.getD (k21-1) 0)+1)))).map aW) (eG _ _ _) fun v52 hb54 u55 hs56=>?_
      have hw3:=u55.ext hw2 ge27
      refine aU (cA (cH (⟨v52,_,_⟩:a6×List Nat×List Nat) ⟨hw3,(hb50.updN u55 (by omega)),hl51,((hbd.updN u49 (by omega)).updN u55 (by omega)),hb54,(hJ (l:=lq) (hlq)),hI.step (by omega) hwl3 hv3⟩ (zG (Nat.pos_of_ne_zero hn0) hDp hv3) rfl ⟨rfl,rfl,rfl,rfl,rfl,rfl,trivial⟩))
    ·
     have hT:=K1 (b:=4294967296) (l:=lr) (i:=(j+k21)-1) (by omega)
     refine a7 (mv 3 rfl (pu (v:= .int .i64 k21) rfl (aE rfl rfl rfl ((j+k21:Nat):Int) (bF (a:=j) (b:=k21) rfl rfl) (aE rfl rfl rfl (((j+k21)-1:Nat):Int) (eR (a:=j+k21) (b:=1) rfl rfl) (bT rfl rfl rfl bU bN ((j+k21)-1) rfl ⟨g6,(j+k21)-1,none⟩ (dP _ _) (aS rfl rfl (iW d7 hbr (by rw [hlr];omega)) (mv 1 rfl (a0 (aA (sr (mv 2 rfl (pu (v:= .int .i64 k21) rfl (aE rfl rfl rfl ((j+k21:Nat):Int) (bF (a:=j) (b:=k21) rfl rfl) ?_)))))))))))))
     refine mv 1 rfl (pu (v:= .int .i64 (((n+1):Nat):Int)) rfl (aB rfl rfl rfl false (cX (a:=j+k21) (b:=n+1) rfl rfl) (a0 (aI rfl (aN (aD (aA ?_)))))))
     have hfit:=LO hhd hkp hT
     have hRlt:nb 4294967296 lr<nb 4294967296 l13*4294967296^(j+1):=iH (Nat.le_add_left _ _) hI.lt
     by_cases hn0:(lr.getD ((j+k21)-1) 0)/((l13.getD (k21-1) 0)+1)=0
     ·
      by_cases hgo:nb 4294967296 l13*4294967296^j≤nb 4294967296 lr
      ·
       have hgo1:1*nb 4294967296 l13*4294967296^j≤nb 4294967296 lr:=by rw [Nat.one_mul];exact hgo
       refine a7 (mv 2 rfl (aE rfl rfl rfl (((lr.getD ((j+k21)-1) 0)/((l13.getD (k21-1) 0)+1):Nat):Int) (iR (a:=lr.getD ((j+k21)-1) 0) (b:=(l13.getD (k21-1) 0)+1) rfl rfl) (mv 1 rfl (a0 (aA (sr (mv 1 rfl (aB rfl rfl rfl true (dA (a:=(lr.getD ((j+k21)-1) 0)/((l13.getD (k21-1) 0)+1)) (b:=0) rfl rfl) (a0 (aP rfl (sr (mv 3 rfl (cl (vs:= [.slice (some ⟨g6,0,none⟩) (n+1) (n+1),.slice (some ⟨g13,0,none⟩) k21 (m+1),.int .i64 j]) hw1 (y8 (b:=true) (hbr.rd0 hwr.wf hlr (by omega)) ((hbd.rd0 hwf13.wf hl13 (by omega)).take (k:=k21) (by omega) (by omega) (b8 _)) hwr (kF hwf13 _) (zH hI rfl hwf13 hvd) (by rw [hvd,decide_eq_true hgo])) rfl (by kernel_rfl) fun xr59 v57 r59 e58 hw2=>?_)))))))))))))
       obtain rfl:=r59
       refine mv 1 rfl (a0 (aA (sr (mv 1 rfl (pu (v:= .bool false) rfl (a0 (aI rfl (aN (aD (a7 (mv 1 rfl (a0 (aA ?_)))))))))))))
       refine a7 (mv 4 rfl ?_)
       have hqlt:=vX hgo1 hRlt
       refine dD rfl rfl (vs:= [.slice (some ⟨g6,0,none⟩) (n+1) (n+1),.slice (some ⟨g13,0,none⟩) k21 (m+1),.int .u64 1,.int .i64 j]) (by kernel_rfl) (by decide) (y7 (q:=1) (s:=j) (hbr.ext e58) hlr hwr (((hbd.ext e58).rd0 hwf13.wf hl13 (by omega)).take (k:=k21) (by omega) (by omega) (b8 _)) (kF hwf13 _) (fun _ a ha=>by cases ha;show g13≠g6;omega) hqlt (by rw [hvd];exact hgo1)) ?_
       rintro _ v60 ⟨rfl,u61,l3,hb62,hl63,hwl3,hv3⟩
       rw [hvd] at hv3
       refine dE ?_
       have hdg:=hI.digit hv3
       have hw3:=u61.ext hw2 ge7
       refine a0 (a7 (mv 4 rfl (bT rfl rfl rfl bU bN j rfl ⟨g22,j,none⟩ (dP _ _) (aS rfl rfl (iW d7 ((hbq.ext e58).updN u61 (by omega)) (by rw [hlq];omega)) (mv 1 rfl (aE rfl rfl rfl (((lq.getD j 0)+1:Nat):Int) (eW (a:=lq.getD j 0) (b:=1) rfl rfl) (bT rfl rfl rfl bU bN j rfl ⟨g22,j,none⟩ (dP _ _) ?_)))))))
       have hb65:=((hbq.ext e58).updN u61 (by omega))
       refine eB rfl rfl rfl bN rfl hb65 (fK (by rw [hlq];omega)) rfl ((lq.set j ((lq.getD j 0)+1)).map aW) (eG _ _ _) fun v64 hb66 u67 hs68=>?_
       have hw4:=u67.ext hw3 ge27
       refine aU (cA (cH (⟨v64,_,_⟩:a6×List Nat×List Nat) ⟨hw4,(hb62.updN u67 (by omega)),hl63,(((hbd.ext e58).updN u61 (by omega)).updN u67 (by omega)),hb66,(hJ (l:=lq) (hlq)),hI.step (by omega) hwl3 hv3⟩ (zG (b8 1) hDp hv3) rfl ⟨rfl,rfl,rfl,rfl,rfl,rfl,trivial⟩))
      ·
       refine a7 (mv 2 rfl (aE rfl rfl rfl (((lr.getD ((j+k21)-1) 0)/((l13.getD (k21-1) 0)+1):Nat):Int) (iR (a:=lr.getD ((j+k21)-1) 0) (b:=(l13.getD (k21-1) 0)+1) rfl rfl) (mv 1 rfl (a0 (aA (sr (mv 1 rfl (aB rfl rfl rfl true (dA (a:=(lr.getD ((j+k21)-1) 0)/((l13.getD (k21-1) 0)+1)) (b:=0) rfl rfl) (a0 (aP rfl (sr (mv 3 rfl (cl (vs:= [.slice (some ⟨g6,0,none⟩) (n+1) (n+1),.slice (some ⟨g13,0,none⟩) k21 (m+1),.int .i64 j]) hw1 (y8 (b:=false) (hbr.rd0 hwr.wf hlr (by omega)) ((hbd.rd0 hwf13.wf hl13 (by omega)).take (k:=k21) (by omega) (by omega) (b8 _)) hwr (kF hwf13 _) (zH hI rfl hwf13 hvd) (by rw [hvd,decide_eq_false hgo])) rfl (by kernel_rfl) fun xr71 v69 r71 eH hw2=>?_)))))))))))))
       obtain rfl:=r71
       refine mv 1 rfl (a0 (aA (sr (mv 1 rfl (pu (v:= .bool true) rfl (a0 (aP rfl (cR (cN (cN (D3 (cP (cQ ?_)))))))))))))
       refine cA (aD (a7 (mv 1 rfl (aE rfl rfl rfl (((j:Nat):Int)-1) (dM rfl) (mv 1 rfl (aU (cH (⟨v69,j,_,_,_⟩:a6×Nat×Int×List Nat×List Nat) ⟨hw2,(by omega),(by omega),(hbr.ext eH),hlr,(hbd.ext eH),(hbq.ext eH),hlq,hI.leave hgo⟩ (show j<j+1 by omega) rfl ⟨rfl,rfl,rfl,rfl,rfl,rfl,trivial⟩)))))))
     ·
      refine a7 (mv 2 rfl (aE rfl rfl rfl (((lr.getD ((j+k21)-1) 0)/((l13.getD (k21-1) 0)+1):Nat):Int) (iR (a:=lr.getD ((j+k21)-1) 0) (b:=(l13.getD (k21-1) 0)+1) rfl rfl) (mv 1 rfl (a0 (aA (sr (mv 1 rfl (aB rfl rfl rfl false (dC (a:=(lr.getD ((j+k21)-1) 0)/((l13.getD (k21-1) 0)+1)) (b:=0) rfl rfl) (a0 (aI rfl (aN (aD (aA ?_)))))))))))))
      refine a7 (mv 4 rfl ?_)
      have hqlt:=vX hfit hRlt
      refine dD rfl rfl (vs:= [.slice (some ⟨g6,0,none⟩) (n+1) (n+1),.slice (some ⟨g13,0,none⟩) k21 (m+1),.int .u64 (((lr.getD ((j+k21)-1) 0)/((l13.getD (k21-1) 0)+1):Nat):Int),.int .i64 j]) (by kernel_rfl) (by decide) (y7 (q:=(lr.getD ((j+k21)-1) 0)/((l13.getD (k21-1) 0)+1)) (s:=j) hbr hlr hwr ((hbd.rd0 hwf13.wf hl13 (by omega)).take (k:=k21) (by omega) (by omega) (b8 _)) (kF hwf13 _) (fun _ a ha=>by cases ha;show g13≠g6;omega) hqlt (by rw [hvd];exact hfit)) ?_
      rintro _ v72 ⟨rfl,u73,l3,hb74,hl75,hwl3,hv3⟩
      rw [hvd] at hv3
      refine dE ?_
      have hdg:=hI.digit hv3
      have hw2:=u73.ext hw1 ge7
      refine a0 (a7 (mv 4 rfl (bT rfl rfl rfl bU bN j rfl ⟨g22,j,none⟩ (dP _ _) (aS rfl rfl (iW d7 (hbq.updN u73 (by omega)) (by rw [hlq];omega)) (mv 1 rfl (aE rfl rfl rfl (((lq.getD j 0)+((lr.getD ((j+k21)-1) 0)/((l13.getD (k21-1) 0)+1)):Nat):Int) (eW (a:=lq.getD j 0) (b:=(lr.getD ((j+k21)-1) 0)/((l13.getD (k21-1) 0)+1)) rfl rfl) (bT rfl rfl rfl bU bN j rfl ⟨g22,j,none⟩ (dP _ _) ?_)))))))
      have hb77:=(hbq.updN u73 (by omega))
      refine eB rfl rfl rfl bN rfl hb77 (fK (by rw [hlq];omega)) rfl ((lq.set j ((lq.getD j 0)+((lr.getD ((j+k21)-1) 0)/((l13.getD (k21-1) 0)+1)))).map aW) (eG _ _ _) fun v76 hb78 u79 hs80=>?_
      have hw3:=u79.ext hw2 ge27
      refine aU (cA (cH (⟨v76,_,_⟩:a6×List Nat×List Nat) ⟨hw3,(hb74.updN u79 (by omega)),hl75,((hbd.updN u73 (by omega)).updN u79 (by omega)),hb78,(hJ (l:=lq) (hlq)),hI.step (by omega) hwl3 hv3⟩ (zG (Nat.pos_of_ne_zero hn0) hDp hv3) rfl ⟨rfl,rfl,rfl,rfl,rfl,rfl,trivial⟩))
   ·
    obtain rfl:k=0:=by omega
    refine a7 (mv 1 rfl (aB rfl rfl rfl false (jG) (a0 (aI rfl (cR (cN (cP (cQ (aD (sr (mv 1 rfl (a0 (aA ?_)))))))))))))
    refine sr (mv 1 rfl (pu (v:= .int .i64 (((n+1):Nat):Int)) rfl (aE rfl rfl rfl (((n+1)-1:Nat):Int) (eR (a:=n+1) (b:=1) rfl rfl) (mv 1 rfl (a0 (bG ?_))))))
    refine d4 (T:=a6×Nat×Int×Nat×List Nat)
     (fun⟨wr,k,ii,rest,l⟩=> [(6,.int .u64 f),(7,.slice (some ⟨g6,0,none⟩) (n+1) (n+1)),(9,.slice (some ⟨g22,0,none⟩) ((n-m)+1) ((n-m)+1)),(15,.int .u64 rest),(16,.int .i64 ii)])
     (fun⟨wr,k,ii,rest,l⟩=>wr)
     (fun⟨wr,k,ii,rest,l⟩=>(Ext w wr)∧(k≤n+1)∧(ii=(k:Int)-1)∧(Bk wr g6 65 (l.map aW))∧(Bk wr g22 65 (lq.map aW))∧(DF f lr k rest l))
     (fun⟨wr,k,ii,rest,l⟩=>k)
     (⟨wr,n+1,_,0,lr⟩:a6×Nat×Int×Nat×List Nat) ⟨hw1,b8 _,(by omega),hbr,hbq,DF.start hO.wr hf1 hlr⟩ rfl ⟨rfl,rfl,rfl,rfl,rfl,trivial⟩ ?_
    rintro⟨wr,k,ii,rest,l⟩ ⟨hw1,hk,hii,hbr,hbq,hF⟩
    refine cC [(6,.int .u64 f),(7,.slice (some ⟨g6,0,none⟩) (n+1) (n+1)),(9,.slice (some ⟨g22,0,none⟩) ((n-m)+1) ((n-m)+1)),(15,.int .u64 rest),(16,.int .i64 ii)] wr rfl ⟨rfl,rfl,rfl,rfl,rfl,trivial⟩ ?_
    have hll:=hF.len
    rw [hlr] at hll
    refine aA (aA ?_)
    by_cases hk0:0<k
    ·
     obtain⟨j,rfl⟩:∃j,k=j+1:=⟨k-1,by omega⟩
     obtain rfl:ii=(j:Int):=by omega
     refine a7 (mv 1 rfl (aB rfl rfl rfl true (eI (a:=j) (b:=0) rfl rfl) (a0 (aP rfl (aN (aD (aA (bG (aA ?_)))))))))
     have hdig:=hF.digit
     have hb1:=iY (b:=4294967296) hF.wf j
     have hrf:=hF.rf
     refine a7 (mv 1 rfl (aE rfl rfl rfl ((rest*4294967296:Nat):Int) (lX (a:=rest) (b:=4294967296) rfl rfl) (mv 2 rfl (bT rfl rfl rfl bU bN j rfl ⟨g6,j,none⟩ (dP _ _) (aS rfl rfl (iW d7 hbr (by rw [hll];omega)) (aE rfl rfl rfl (((rest*4294967296)+(l.getD j 0):Nat):Int) (eW (a:=rest*4294967296) (b:=l.getD j 0) rfl rfl) (mv 1 rfl (a0 (sr (mv 4 rfl (aE rfl rfl rfl ((((rest*4294967296)+(l.getD j 0))/f:Nat):Int) (iR (a:=(rest*4294967296)+(l.getD j 0)) (b:=f) rfl rfl) (bT rfl rfl rfl bU bN j rfl ⟨g6,j,none⟩ (dP _ _) ?_))))))))))))
     have hb82:=hbr
     refine eB rfl rfl rfl bN rfl hb82 (fK (by rw [hll];omega)) rfl ((l.set j (((rest*4294967296)+(l.getD j 0))/f)).map aW) (eG _ _ _) fun v81 hb83 u84 hs85=>?_
     have hw2:=u84.ext hw1 ge7
     refine a0 (a7 (mv 2 rfl (aE rfl rfl rfl ((((rest*4294967296)+(l.getD j 0))%f:Nat):Int) (fC (a:=(rest*4294967296)+(l.getD j 0)) (b:=f) rfl rfl) (mv 1 rfl (aU (cA (aD (a7 (mv 1 rfl (aE rfl rfl rfl (((j:Nat):Int)-1) (dM rfl) (mv 1 rfl (aU (cH (⟨v81,j,_,_,_⟩:a6×Nat×Int×Nat×List Nat) ⟨hw2,(by omega),rfl,hb83,(hbq.updN u84 (by omega)),hF.step (by omega) hdig hf1⟩ (show j<j+1 by omega) rfl ⟨rfl,rfl,rfl,rfl,rfl,trivial⟩)))))))))))))
    ·
     obtain rfl:k=0:=by omega
     refine a7 (mv 1 rfl (aB rfl rfl rfl false (jG) (a0 (aI rfl (cR (cN (cP (cQ (aD (sr (mv 1 rfl (cl (vs:= [.slice (some ⟨g22,0,none⟩) ((n-m)+1) ((n-m)+1)]) hw1 (tA (hbq.rd0 hO.wq.wf hlq (by omega))) rfl (by kernel_rfl) fun xr88 v86 r88 e87 hw2=>?_))))))))))))
     obtain⟨k89,rfl,hk89,ht89,hv89⟩:=r88
     refine mv 1 rfl (cl (vs:= [.slice (some ⟨g6,0,none⟩) (n+1) (n+1)]) hw2 (tA ((hbr.ext e87).rd0 hF.wf.wf hll (by omega))) rfl (by kernel_rfl) fun xr92 v90 r92 e91 hw3=>?_)
     obtain⟨k93,rfl,hk93,ht93,hv93⟩:=r92
     refine mv 2 rfl (a0 (aM (aL [.slice (some ⟨g22,0,none⟩) k89 ((n-m)+1),.slice (some ⟨g6,0,none⟩) k93 (n+1)] rfl ⟨rfl,rfl,trivial⟩ ?_)))
     obtain⟨e1,e2⟩:=a0l hO hD hF
     refine⟨_,rfl,⟨_,_,rfl,⟨_,_,_,rfl,?_⟩,⟨_,_,_,rfl,?_⟩⟩,hw3⟩
     ·rw [←e1];exact ((hbq.ext (e87.trans e91)).rd0 hO.wq.wf hlq (by omega)).trim hO.wq hk89 ht89 hv89
     ·rw [←e2];exact ((hbr.ext (e87.trans e91)).rd0 hF.wf.wf hll (by omega)).trim hF.wf hk93 ht93 hv93
theorem I3 {w:a6}(hb:b≤w.heap.size)(hx:Rd w A n cap (db 4294967296 m))(hln:n≤1099511627776):
  aO aF 231 #[.slice A n cap] w (Gv w (WR b m)):=by
 have h:=TL hx hln (kY lI _)
 rw [iB lI] at h
 exact h.mono (Gv.imp (WR.imp hb))
theorem TN {w:a6}(hx:Rd w A n cap (db 4294967296 X))(hln:n≤274877906944)(hy:Rd w D m cd (db 4294967296 Y))(hlm:m≤274877906944)(hY:Y≠0):
  aO aF 230 #[.slice A n cap,.slice D m cd] w (Gv w (T2 (WD (X/Y)) (WD (X%Y)))):=by
 have hl:=hx.len
 have hl2:=hy.len
 have h1:=wA lI X
 have h2:=wA lI Y
 rw [hl] at h1
 rw [hl2] at h2
 have hm:0<m:=by
  refine Nat.pos_of_ne_zero fun e=>hY ?_
  rw [←rS lI (n:=Y),hl2,e]
 have h:=TO hx hln hy hlm (kY lI _) (kY lI _) h1 hm (by omega)
 rw [iB lI,iB lI] at h
 exact h
theorem XN (h:Wf xs):(db 4294967296 (nv xs)).length≤2*xs.length:=by
 refine kT lI ?_
 have:=jM h
 rwa [wF,←Nat.pow_mul] at this
theorem Rd.hl {w:a6}{w0:a6}{n0 c0:Nat}(h:Rd w A k c (db 4294967296 m))(hx:Rd w0 A0 n0 c0 xs)(hm:m≤nv xs):k≤2*n0:=by
 have h1:=h.len
 have h2:=XN hx.wf
 rw [hx.len] at h2
 have h3:=CU lI hm
 omega
set_option maxHeartbeats 4000000 in
theorem TP {w:a6}(hx:Rd w A n cap xs)(hln:n≤137438953472)(hy:Rd w D m cd ys)(hlm:m≤137438953472)(hy0:nv ys≠0):
    aO aF 190 #[.slice A n cap,.slice D m cd] w (Gv w (T3 (WR w.heap.size (nv xs/nv ys)) (WR w.heap.size (nv xs%nv ys)) (Is (.int .i64 0)))):=by
 refine bK Tryz.func190 rfl (n:=28) rfl (bq rfl) (args:= [.slice A n cap,.slice D m cd]) (bE [(0,.slice A n cap),(1,.slice D m cd)] ⟨rfl,rfl,trivial⟩ (sr (mv 3 rfl (a0 (sr (mv 1 rfl (cl (vs:= [.slice D m cd]) (Ext.refl w) (I5 hy (by omega)) rfl (by kernel_rfl) fun xr3 v1 r3 e2 hw1=>?_)))))))
 obtain⟨A4,n4,c4,rfl,rd4⟩:=r3
 refine mv 1 rfl (a0 (aA (aA ?_)))
 have hdl:=rd4.hl hy (b8 _)
 have hlz:=rd4.len
 have hlp:n4≠0:=fun e=>hy0 (by rw [←rS lI (n:=nv ys),hlz,e])
 refine a7 (mv 1 rfl (pu (v:= .int .i64 n4) rfl (aB rfl rfl rfl false (dC (a:=n4) (b:=0) rfl rfl) (a0 (aI rfl (aN (aD (sr (mv 1 rfl (cl (vs:= [.slice A n cap]) hw1 (I5 (hx.ext e2) (by omega)) rfl (by kernel_rfl) fun xr7 v5 r7 e6 hw2=>?_))))))))))
 obtain⟨A8,n8,c8,rfl,rd8⟩:=r7
 refine mv 1 rfl (a0 (aA ?_))
 have hdl2:=rd8.hl hx (b8 _)
 refine a7 (mv 2 rfl (cl (vs:= [.slice A8 n8 c8,.slice A4 n4 c4]) hw2 (TN rd8 (by omega) (rd4.ext e6) (by omega) hy0) rfl (by kernel_rfl) fun xr11 v9 r11 e10 hw3=>?_))
 obtain⟨_,_,rfl,⟨A13,n13,c13,rfl,rd13⟩,⟨A14,n14,c14,rfl,rd14⟩⟩:=r11
 refine mv 1 rfl (pu (v:= .slice A13 n13 c13) rfl (pu (v:= .slice A14 n14 c14) rfl (mv 2 rfl (a0 (aA ?_)))))
 have hdl3:=rd13.hl hx (fI _ _)
 have hdl4:=rd14.hl hx (Nat.mod_le _ _)
 refine a7 (mv 1 rfl (cl (vs:= [.slice A13 n13 c13]) hw3 (I3 hw3.size rd13 (by omega)) rfl (by kernel_rfl) fun xr17 v15 r17 e16 hw4=>?_))
 obtain⟨A18,n18,c18,rfl,j18,o18⟩:=r17
 refine mv 1 rfl (cl (vs:= [.slice A14 n14 c14]) hw4 (I3 hw4.size (rd14.ext e16) (by omega)) rfl (by kernel_rfl) fun xr21 v19 r21 e20 hw5=>?_)
 obtain⟨A22,n22,c22,rfl,j22,o22⟩:=r21
 refine mv 3 rfl (a0 (aM (aL [.slice A18 n18 c18,.slice A22 n22 c22,I0] rfl ⟨rfl,rfl,rfl,trivial⟩ ?_)))
 exact⟨_,rfl,⟨_,_,_,rfl,⟨_,_,_,rfl,j18,(o18.ext e20)⟩,⟨_,_,_,rfl,j22,o22⟩,rfl⟩,hw5⟩
section
variable {w:a6}{A B:Option aC}{n cap m cap' i j:Nat}
theorem YS (hb:b≤w.heap.size)(hx:Wi w A n cap i)(hl:n≤68719476735):aO aF 180 #[.slice A n cap] w (Gv w (WR b i)):=by
 obtain⟨xs,h1,rfl⟩:=hx
 exact (TV h1 (by omega)).mono (gw hb)
theorem CZ (hb:b≤w.heap.size)(hx:Wi w A n cap i)(hl:n≤68719476735)(hy:Wi w B m cap' j)(hl':m≤68719476735):aO aF 129 #[.slice A n cap,.slice B m cap'] w (Gv w (WR b (i+j))):=by
 obtain⟨xs,h1,rfl⟩:=hx
 obtain⟨ys,h2,rfl⟩:=hy
 exact (TY h1 (by omega) h2 (by omega)).mono (gw hb)
theorem qT (hx:Wi w A n cap i)(hl:n≤68719476735)(hy:Wi w B m cap' j)(hl':m≤68719476735):aO aF 128 #[.slice A n cap,.slice B m cap'] w (Gv w (Is (.int .i64 (dH i j)))):=by
 obtain⟨xs,h1,rfl⟩:=hx
 obtain⟨ys,h2,rfl⟩:=hy
 exact (TW h1 (by omega) h2 (by omega)).mono KZ
theorem L8 (hb:b≤w.heap.size)(hx:Wi w A n cap i)(hl:n≤68719476735)(hy:Wi w B m cap' j)(hl':m≤68719476735)(hij:j≤i):aO aF 130 #[.slice A n cap,.slice B m cap'] w (Gv w (T2 (WR b (i-j)) (Is (.int .i64 0)))):=by
 obtain⟨xs,h1,rfl⟩:=hx
 obtain⟨ys,h2,rfl⟩:=hy
 exact (TT h1 (by omega) h2 (by omega) hij).mono (Gv.imp (T2.imp (WR.imp hb) Is.imp))
theorem YQ (hb:b≤w.heap.size)(hx:Wi w A n cap i)(hl:n≤68719476735)(hy:Wi w B m cap' j)(hl':m≤68719476735):aO aF 131 #[.slice A n cap,.slice B m cap'] w (Gv w (WR b (i*j))):=by
 obtain⟨xs,h1,rfl⟩:=hx
 obtain⟨ys,h2,rfl⟩:=hy
 exact (TS h1 hl h2 hl').mono (gw hb)
theorem L6 (hb:b≤w.heap.size)(hx:Wi w A n cap i)(hl:n≤68719476735)(hy:Wi w B m cap' j)(hl':m≤68719476735)(h0:j≠0):aO aF 190 #[.slice A n cap,.slice B m cap'] w (Gv w (T3 (WR b (i/j)) (WR b (i%j)) (Is (.int .i64 0)))):=by
 obtain⟨xs,h1,rfl⟩:=hx
 obtain⟨ys,h2,rfl⟩:=hy
 exact (TP h1 (by omega) h2 (by omega) h0).mono (Gv.imp (T3.imp (WR.imp hb) (WR.imp hb) Is.imp))
end
theorem XX (hs:s≤64)(hx:x*2^s≤9223372036854775807)(P:cD)(t:aT)(w:a6):(binOp .shl t (.int .i64 (x:Int)) (.int .u64 (s:Int))).run P w= .ok (.int .i64 ((x*2^s:Nat):Int)) w:=by
 have e:((x:Int)*2^min (s:Int).toNat IntKind.i64.bits)=((x*2^s:Nat):Int):=by
  rw [gV,show min s IntKind.i64.bits=s from fT hs];simp
 simp only [binOp]
 rw [shift_shl_any _ _ _ _ (by omega),e,IntWalk.i64_in _ ⟨by omega,by omega⟩];rfl
def C9 (e:ZC):aH:= .slice e.A e.n e.c
def Pw (w:a6)(pb:Nat)(PA:Option aC)(pn pc unit:Nat):Prop:=∃es:List ZC,Own w pb 22 1 PA pn pc (es.map C9)∧es.length=pn∧
 ∀i,i<pn→(es.getD i ZC.zero).n=(wd (unit^2^i)).length∧(es.getD i ZC.zero).n≤8388608∧Own w 0 65 1 (es.getD i ZC.zero).A (es.getD i ZC.zero).n (es.getD i ZC.zero).c ((wd (unit^2^i)).map aW)
theorem Pw.nil (w:a6)(pb unit:Nat):Pw w pb none 0 0 unit:=⟨[],Own.nil _ _ _ _,rfl,fun i hi=>by omega⟩
theorem Pw.ext {w w':a6}{pc:Nat}(h:Pw w pb PA pn pc unit)(e:Ext w w'):Pw w' pb PA pn pc unit:=by
 obtain⟨es,h1,h2,h3⟩:=h
 exact⟨es,h1.ext e,h2,fun i hi=>⟨(h3 i hi).1,(h3 i hi).2.1,(h3 i hi).2.2.ext e⟩⟩
theorem Pw.updW {w w':a6}{pc:Nat}(h:Pw w pb PA pn pc unit)(u:UpdW lb w w'):Pw w' pb PA pn pc unit:=by
 obtain⟨es,h1,h2,h3⟩:=h
 exact⟨es,u.own h1 (by decide) (by decide),h2,fun i hi=>⟨(h3 i hi).1,(h3 i hi).2.1,u.own (h3 i hi).2.2 (by decide) (by decide)⟩⟩
theorem Pw.updT {w w':a6}{pc:Nat}(h:Pw w pb PA pn pc unit)(hb:Bk w g T us)(u:Upd g w w')(h1:22≠T)(h2:65≠T):Pw w' pb PA pn pc unit:=by
 obtain⟨es,h4,h5,h3⟩:=h
 exact⟨es,h4.updT hb h1 u,h5,fun i hi=>⟨(h3 i hi).1,(h3 i hi).2.1,(h3 i hi).2.2.updT hb h2 u⟩⟩
theorem Pw.at {w:a6}{pc:Nat}(h:Pw w pb PA pn pc unit)(hi:i<pn):∃p A n c,PA.map (·.add (i*1))=some p∧w.cell? p=some (.slice A n c)∧n=(wd (unit^2^i)).length∧n≤8388608∧Own w 0 65 1 A n c ((wd (unit^2^i)).map aW):=by
 obtain⟨es,h1,h2,h3⟩:=h
 obtain⟨a,ha,hc⟩:=h1.rv.get i (by omega)
 have e:(es.map C9).getD i undef=C9 (es.getD i ZC.zero):=by
  simp [bC,kK,cJ (show i<es.length by omega)]
 rw [e] at hc
 obtain⟨h4,h5,h6⟩:=h3 i hi
 exact⟨a.add i,_,_,_,by rw [ha,cI];rfl,hc,h4,h5,h6⟩
theorem Pw.mono {w:a6}{pb':Nat}{pc:Nat}(h:Pw w pb PA pn pc unit)(hb:pb'≤pb):Pw w pb' PA pn pc unit:=by
 obtain⟨es,h1,h2,h3⟩:=h
 exact⟨es,h1.mono hb,h2,h3⟩
theorem P7 {Q:Exit→Act→a6→Prop}{l:Fr}{w:a6}{rest:List aX}{pos:String}{x y:cS}{pc qc:Nat}(hw:dI ops l gd=some true)(hx:bZ l x=some (.slice PA pn pc))(hy:bZ l y=some (.slice (some ⟨g,0,none⟩) 1 c))(h:Pw w pb PA pn pc unit)(hpb:pb≤w.heap.size)(hb:Bk w g 22 [.slice A n qc])(hn:n=(wd (unit^2^pn)).length)(hn8:n≤8388608)(ho:Own w b 65 1 A n qc ((wd (unit^2^pn)).map aW))(hm:pn≤64)(hd:d<N)(k:∀A' c' w',Pw w' pb A' (pn+1) c' unit→UpdO PA w w'→(∃us,Own w pb 22 1 PA pn pc us)→wl aF ops Q N rest ((d,.slice A' (pn+1) c')::l) w'):
  wl aF ops Q N (⟨some d,.call {callee:= .builtin .append,args:= #[x,y],argTypes:= #[36,36]},ty,pos,af,gd⟩::rest) l w:=by
 obtain⟨es,h1,h2,h3⟩:=h
 refine nP hw hx hy oO KP rfl h1 hpb [.slice A n qc] rfl (oW _ hb) rfl (hn:=hd) fun A' c' w' ho' hu _=>k A' c' w' ?_ hu ⟨_,h1⟩
 refine⟨es++ [⟨false,A,n,qc⟩],by rw [List.map_append];exact ho',by simp [h2],fun i hi=>?_⟩
 by_cases hin:i<pn
 ·rw [YG (by omega)]
  exact⟨(h3 i hin).1,(h3 i hin).2.1,(h3 i hin).2.2.updOT h1 (by decide) hu⟩
 ·have e1:i=pn:=by omega
  subst e1
  have e2:(es++ [(⟨false,A,n,qc⟩:ZC)]).getD i ZC.zero=⟨false,A,n,qc⟩:=by rw [←h2];exact YF
  rw [e2]
  exact⟨hn,hn8,(ho.mono (bW b)).updOT h1 (by decide) hu⟩
theorem a1b {w:a6}(h:Bk w g 65 [.int .u64 x])(hx:x≤18446744073709551615)(h0:x≠0):Own w 0 65 1 (some ⟨g,0,none⟩) 1 1 ((wd x).map aW):=
 iK (Own.mk_ (bW _) h (b8 _) (by rw [eY];omega) rfl rfl) hx h0
theorem J0:u^2^j*u^2^j=u^2^(j+1):=by rw [←bX,cB];congr 1;omega
theorem XK (h:(wd p).length≤n):(wd (p*p)).length≤2*n:=by
 refine fY ?_
 have h1:=kS p
 have h2:p<WB^n:=dF h1 (dU (by rw [cF];decide) h)
 rw [Nat.two_mul,bX]
 exact Nat.mul_lt_mul'' h2 h2
theorem xT {w:a6}(hx:Wi w A n c m)(hy:Wi w B n' c' m')(hl:n≤1099511627776:=by omega)(hl':n'≤1099511627776:=by omega):aO aF 144 #[.slice A n c,.slice B n' c'] w (Gv w (Is (.int .i64 (dH m m')))):=by
 obtain⟨xs,h1,rfl⟩:=hx
 obtain⟨ys,h2,rfl⟩:=hy
 refine (vN h1 h2 (hl:=hl) (hl':=hl')).mono fun e w' h=>?_
 obtain⟨d,h3,_,_,rfl,h4⟩:=h
 exact⟨_,rfl,(show bV .i64 d=_ by rw [h3.out]),h4⟩
theorem S8 {w:a6}(hb:b≤w.heap.size)(hx:Wi w A n c m)(hl:n≤274877906944)(hy:Wi w B n' c' m')(hl':n'≤274877906944)(h0:m'≠0):aO aF 199 #[.slice A n c,.slice B n' c'] w (Gv w (T3 (WR b (m/m')) (WR b (m%m')) (Is (.int .i64 0)))):=by
 obtain⟨xs,h1,rfl⟩:=hx
 obtain⟨ys,h2,rfl⟩:=hy
 refine (LU h1 hl h2 hl' h0).mono fun e w' h=>?_
 obtain⟨A,n,cap,B,m,cap',rfl,h3,_,h4,h5,_,h6,h7⟩:=h
 exact⟨_,rfl,⟨_,_,_,rfl,⟨A,n,cap,rfl,h3.out,h4.mono hb⟩,⟨B,m,cap',rfl,h5.out,h6.mono hb⟩,rfl⟩,h7⟩
theorem uU {w:a6}(hb:b≤w.heap.size)(hx:Wi w A n c m)(hl:n≤137438953472:=by omega):aO aF 198 #[.slice A n c] w (Gv w (WR b (m*m))):=by
 obtain⟨xs,h1,rfl⟩:=hx
 exact (WT h1 hl).mono (gw hb)
theorem a0X (h:x<y):dY .lss (dH x y) 0=some true:=pB (pH.2 h)
theorem a0Y (h:y≤x):dY .lss (dH x y) 0=some false:=mB (h:=(by have:=pH (a:=x) (b:=y);omega))
theorem a0Z (h:x≤y):dY .leq (dH x y) 0=some true:=KK (by have:=DS (a:=x) (b:=y);omega)
theorem a00 (h:y<x):dY .leq (dH x y) 0=some false:=KL (DS.2 h)
theorem J3 (hu:2≤u)(h:u^2^ip≤m)(hl:(wd m).length≤an):2^ip≤64*an:=by
 have h1:=kS m
 rw [lY,←Nat.pow_mul] at h1
 have h2:2^2^ip≤u^2^ip:=Nat.pow_le_pow_left hu _
 have h3:2^(64*(wd m).length)≤2^(64*an):=dU (by decide) (eF _ hl)
 exact Nat.le_of_lt ((Nat.pow_lt_pow_iff_right (by decide)).1 (iH h2 (iH h (dF h1 h3))))
theorem KO (h:2^ip≤n)(hn:n≤268435456):ip≤28:=by
 refine Nat.le_of_not_lt fun h2=>?_
 have h3:2^29≤2^ip:=dU (by decide) h2
 omega
theorem Q3 (hb:2≤b)(h:(b^k)^2^ip≤m)(h0:0<(b^k)^2^ip):eE (eT (db b (m/(b^k)^2^ip)) (width-k*2^ip))++eE (eT (db b (m%(b^k)^2^ip)) (k*2^ip))=eE (eT (db b m) width):=by
 have e:(b^k)^2^ip=b^(k*2^ip):=by rw [←Nat.pow_mul]
 rw [e] at h h0⊢
 have hq:m/b^(k*2^ip)≠0:=by have:=Nat.div_pos h h0;omega
 have hr:(db b (m%b^(k*2^ip))).length≤k*2^ip:=kT hb (eO _ h0)
 have hl:(eT (db b (m%b^(k*2^ip))) (k*2^ip)).length=k*2^ip:=by rw [rR];omega
 rw [←xB,J4,←zN hb hq,hl]
 by_cases hw:k*2^ip≤width
 ·rw [show k*2^ip+(width-k*2^ip)=width by omega]
 ·have h2:k*2^ip≤(db b m).length:=by rw [zN hb hq,cL,hl];omega
  rw [vE (by omega),vE (by omega)]
theorem Q7 (hb:2≤b)(h:(b^k)^2^ip≤m)(h0:0<(b^k)^2^ip):max (width-k*2^ip) (db b (m/(b^k)^2^ip)).length+k*2^ip=max width (db b m).length∨(width<k*2^ip∧(db b (m/(b^k)^2^ip)).length+k*2^ip=(db b m).length):=by
 have e:(b^k)^2^ip=b^(k*2^ip):=by rw [←Nat.pow_mul]
 rw [e] at h h0⊢
 have hq:m/b^(k*2^ip)≠0:=by have:=Nat.div_pos h h0;omega
 have hr:(db b (m%b^(k*2^ip))).length≤k*2^ip:=kT hb (eO _ h0)
 have hl:(eT (db b (m%b^(k*2^ip))) (k*2^ip)).length=k*2^ip:=by rw [rR];omega
 have h2:(db b m).length=k*2^ip+(db b (m/b^(k*2^ip))).length:=by rw [zN hb hq,cL,hl]
 omega
def AF (ip:Nat):Prop:=∀{w:a6}{g base k unit:Nat}{PA:Option aC}{pn pc:Nat}{OA:Option aC}{on oc lb:Nat}{bs:List Nat}{A:Option aC}{an ac m width:Nat}{ii:Int}(_:ii=(ip:Int)-1) (_:Signs w) (_:4<lb) (_:2≤base) (_:base≤36) (_:Wr w g base k unit PA pn pc OA on oc)
 (_:Own w lb 5 1 OA on oc (bs.map B8)) (_:lb≤g) (_:lb≤w.heap.size) (_:Wi w A an ac m) (_:an≤4194304) (_:unit=base^k) (_:PieceK base k) (_:width≤137438953472) (_:on+max width (db base m).length≤137438953472) (_:Pw w 0 PA pn pc unit) (_:ip≤pn) (_:pn≤64),
 aO aF 228 #[.pointer (some ⟨g,0,none⟩),.slice A an ac,.int .i64 ii,.int .i64 width] w (AB w lb g base k unit PA pn pc OA (bs++eE (eT (db base m) width)))
theorem Y4:AF 0:=by
 intro w g base k unit PA pn pc OA on oc lb bs A an ac m width ii hii hS hgS hbl hbu hW hO hgl hlb ha hal hun hkk hwd hon hP hip hpn
 obtain rfl:ii= -1:=by omega
 exact RZ hS hgS hbl hbu hW hO hgl hlb ha hal hun hkk hwd (by omega)
set_option maxHeartbeats 4000000 in
theorem Y6 (ih:AF ip):AF (ip+1):=by
 intro w g base k unit PA pn pc OA on oc lb bs A an ac m width ii hii hS hgS hbl hbu hW hO hgl hlb ha hal hun hkk hwd hon hP hip hpn
 obtain rfl:ii=(ip:Int):=by omega
 have hml:(wd m).length≤4194304:=aG ha.len hal
 have hk1:1≤k:=by refine Nat.pos_of_ne_zero (fun e=>?_);have:=hkk.gt;rw [e,f9,Nat.pow_one] at this;omega
 have hu2:2≤unit:=by rw [hun];exact aG hbl (aG (Nat.le_of_eq (Nat.pow_one base).symm) (dU (by omega) hk1))
 refine bK Tryz.func228 rfl (n:=74) rfl (bq rfl) (args:= [.pointer (some ⟨g,0,none⟩),.slice A an ac,.int .i64 (ip:Int),.int .i64 width]) (bE [(0,.pointer (some ⟨g,0,none⟩)),(1,.slice A an ac),(2,.int .i64 (ip:Int)),(3,.int .i64 width)] ⟨rfl,rfl,rfl,rfl,trivial⟩ (aA (aA ?_)))
 by_cases h12:an≤12
 · 
  refine a7 (mv 1 rfl (aB rfl rfl rfl false (mB) (mv 2 rfl (pu (v:= .int .i64 an) rfl (aB rfl rfl rfl true (lV (a:=an) (b:=12) rfl rfl) (pu (v:= .bool true) rfl (a0 (aP rfl (sr (mv 3 rfl (dD rfl rfl (vs:= [.pointer (some ⟨g,0,none⟩),.slice A an ac,.int .i64 width]) (by kernel_rfl) (by decide) (GS hS hgS hbl hbu hW hO hgl (aG hlb (UpdW.refl lb w).size) ha hal hun hkk hwd (by omega)) ?_)))))))))))
  rintro _ v1 ⟨rfl,A2,n3,c4,hb5,ho6,uw7,kp8⟩
  refine dE ?_
  have hw1:UpdW lb w v1:=(UpdW.refl lb w).then uw7
  have kk9:=(Kept.refl w OA).next kp8 (UpdW.refl lb w).size
  refine a0 (aM (bL (aL [] rfl trivial ?_)))
  exact⟨rfl,A2,_,_,hb5,ho6,hw1,kk9⟩
 · 
  refine a7 (mv 1 rfl (aB rfl rfl rfl false (mB) (mv 2 rfl (pu (v:= .int .i64 an) rfl (aB rfl rfl rfl false (lW (a:=an) (b:=12) rfl rfl) (pu (v:= .bool false) rfl (a0 (aI rfl (aN (aD (aA (aA ?_))))))))))))
  by_cases hlt:m<unit^2^ip
  · 
   refine a7 (mv 2 rfl (pf g 0 rfl (pf g 3 rfl (aS rfl rfl (aY (fun _=>by kernel_rfl) hW rfl) (mv 1 rfl ?_)))))
   obtain⟨pp,BA,bn,bc,hpp,hcp,hbn,hbl8,hbo⟩:=hP.at (i:=ip) (by omega)
   have hpos:0<unit^2^ip:=eP (by rw [hun];exact eP (by omega))
   refine bT rfl rfl rfl oO oQ ip rfl pp hpp (aS rfl rfl (cZ s9 hcp) (dD rfl rfl (vs:= [.slice A an ac,.slice BA bn bc]) (by kernel_rfl) (by decide) (xT ha hbo.wi) ?_))
   rintro _ v10 ⟨xr12,rfl,r12,e11⟩
   refine dE ?_
   have hw1:UpdW lb w v10:=(UpdW.refl lb w).trans e11
   have hx1:Ext w v10:=(Ext.refl w).trans e11
   obtain rfl:=r12
   refine aB rfl rfl rfl true (a0X hlt) (a0 (aP rfl (sr (mv 3 rfl (aE rfl rfl rfl ((ip:Int)-1) (dM rfl) (mv 1 rfl (dD rfl rfl (vs:= [.pointer (some ⟨g,0,none⟩),.slice A an ac,.int .i64 ((ip:Int)-1),.int .i64 width]) (by kernel_rfl) (by decide) (ih rfl (hS.ext e11) hgS hbl hbu (hW.ext e11) (hO.ext e11) hgl (aG hlb hw1.size) (ha.ext e11) hal hun hkk (by omega) (by omega) (hP.ext e11) (by omega) hpn) ?_)))))))
   rintro _ v13 ⟨rfl,A14,n15,c16,hb17,ho18,uw19,kp20⟩
   refine dE ?_
   have hw2:UpdW lb w v13:=hw1.then uw19
   have kk21:=(Kept.refl w OA).next kp20 hw1.size
   refine a0 (aM (bL (aL [] rfl trivial ?_)))
   exact⟨rfl,A14,_,_,hb17,ho18,hw2,kk21⟩
  · 
   have hge:unit^2^ip≤m:=by omega
   have hbits:=J3 hu2 hge hml
   have hip28:=KO hbits (by omega)
   have hlow:k*2^ip≤64*268435456:=jQ hkk.le64 (by omega)
   have hge2:(base^k)^2^ip≤m:=hun▸hge
   have hp2:0<(base^k)^2^ip:=eP (eP (by omega))
   have hq1:(wd (m/unit^2^ip)).length≤4194304:=aG (gZ (fI _ _)) hml
   have hr1:(wd (m%unit^2^ip)).length≤4194304:=aG (gZ (Nat.mod_le _ _)) hml
   have hrl:(db base (m%unit^2^ip)).length≤k*2^ip:=kT hbl (by rw [Nat.pow_mul,←hun];exact eO _ (hun▸hp2))
   have htl:=Q7 (width:=width) hbl hge2 hp2
   rw [←hun] at htl
   refine a7 (mv 2 rfl (pf g 0 rfl (pf g 3 rfl (aS rfl rfl (aY (fun _=>by kernel_rfl) hW rfl) (mv 1 rfl ?_)))))
   obtain⟨pp,BA,bn,bc,hpp,hcp,hbn,hbl8,hbo⟩:=hP.at (i:=ip) (by omega)
   have hpos:0<unit^2^ip:=eP (by rw [hun];exact eP (by omega))
   refine bT rfl rfl rfl oO oQ ip rfl pp hpp (aS rfl rfl (cZ s9 hcp) (dD rfl rfl (vs:= [.slice A an ac,.slice BA bn bc]) (by kernel_rfl) (by decide) (xT ha hbo.wi) ?_))
   rintro _ v22 ⟨xr24,rfl,r24,e23⟩
   refine dE ?_
   have hw1:UpdW lb w v22:=(UpdW.refl lb w).trans e23
   have hx1:Ext w v22:=(Ext.refl w).trans e23
   obtain rfl:=r24
   refine aB rfl rfl rfl false (a0Y (by omega)) (a0 (aI rfl (aN (aD (sr (mv 2 rfl (pf g 0 rfl (pf g 3 rfl (aS rfl rfl (aY (fun _=>by kernel_rfl) (hW.ext e23) rfl) (mv 1 rfl ?_))))))))))
   obtain⟨pp,BA,bn,bc,hpp,hcp,hbn,hbl8,hbo⟩:=(hP.ext e23).at (i:=ip) (by omega)
   have hpos:0<unit^2^ip:=eP (by rw [hun];exact eP (by omega))
   refine bT rfl rfl rfl oO oQ ip rfl pp hpp (aS rfl rfl (cZ s9 hcp) (dD rfl rfl (vs:= [.slice A an ac,.slice BA bn bc]) (by kernel_rfl) (by decide) (S8 (bW _) (ha.ext e23) (by omega) hbo.wi (by omega) (by omega)) ?_))
   rintro _ v25 ⟨xr27,rfl,r27,e26⟩
   refine dE ?_
   have hw2:UpdW lb w v25:=hw1.trans e26
   have hx2:Ext w v25:=hx1.trans e26
   obtain⟨_,_,_,rfl,⟨A29,n29,c29,rfl,j29,o29⟩,⟨A30,n30,c30,rfl,j30,o30⟩,rfl⟩:=r27
   refine mv 1 rfl (pu (v:= .slice A29 n29 c29) rfl (pu (v:= .slice A30 n30 c30) rfl (pu (v:= .int .i64 0) rfl (mv 3 rfl (a0 (sr (mv 1 rfl (pf g 0 rfl (pf g 1 rfl (aS rfl rfl (aY (fun _=>by kernel_rfl) (hW.ext (e23.trans e26)) rfl) (mv 1 rfl (bD rfl rfl (v:= .int .u64 (IntKind.u64.wrap ((ip:Nat):Int))) (v':= .int .u64 ip) (eD (by omega)) (bS rfl rfl rfl (r:= .int .i64 ((k*2^ip:Nat):Int)) rfl (fun w=>XX (x:=k) (s:=ip) (by omega) (by omega) _ _ w) ?_)))))))))))))
   refine mv 1 rfl (a0 (sr (mv 3 rfl (aE rfl rfl rfl ((ip:Int)-1) (dM rfl) (mv 2 rfl (aE rfl rfl rfl (((width:Nat):Int)-((k*2^ip:Nat):Int)) (dM rfl) (wZ rfl rfl rfl (((width-k*2^ip:Nat):Int)) (dD rfl rfl (vs:= [.pointer (some ⟨g,0,none⟩),.slice A29 n29 c29,.int .i64 ((ip:Int)-1),.int .i64 ((width-k*2^ip:Nat):Int)]) (by kernel_rfl) (by decide) (ih rfl (hS.ext (e23.trans e26)) hgS hbl hbu (hW.ext (e23.trans e26)) (hO.ext (e23.trans e26)) hgl (aG hlb hw2.size) o29.wi (by rw [j29];exact hq1) hun hkk (by omega) (by omega) (hP.ext (e23.trans e26)) (by omega) hpn) ?_))))))))
   rintro _ v31 ⟨rfl,A32,n33,c34,hb35,ho36,uw37,kp38⟩
   refine dE ?_
   have hw3:UpdW lb w v31:=hw2.then uw37
   have kk39:=(Kept.refl w OA).next kp38 hw2.size
   refine a0 (a7 (mv 3 rfl (aE rfl rfl rfl ((ip:Int)-1) (dM rfl) (mv 1 rfl (dD rfl rfl (vs:= [.pointer (some ⟨g,0,none⟩),.slice A30 n30 c30,.int .i64 ((ip:Int)-1),.int .i64 ((k*2^ip:Nat):Int)]) (by kernel_rfl) (by decide) (ih rfl (uw37.signs (hS.ext (e23.trans e26)) hgS) hgS hbl hbu hb35 ho36 hgl (aG hlb hw3.size) (uw37.own o30 (by decide) (by decide)).wi (by rw [j30];exact hr1) hun hkk (by omega) (by rw [oV ho36,cL,xA,rR,←oV hO];omega) ((hP.ext (e23.trans e26)).updW uw37) (by omega) hpn) ?_)))))
   rintro _ v40 ⟨rfl,A41,n42,c43,hb44,ho45,uw46,kp47⟩
   refine dE ?_
   have hw4:UpdW lb w v40:=hw3.then uw46
   have kk48:=kk39.next kp47 hw3.size
   refine aU (vW [] rfl trivial ?_)
   exact⟨rfl,A41,_,_,hb44,(by rw [←Q3 (ip:=ip) (width:=width) hbl hge2 hp2,←hun,←List.append_assoc];exact ho45),hw4,kk48⟩
theorem xR:∀ip,AF ip
 | 0=>Y4
 | ip+1=>Y6 (xR ip)
structure Rune (bs:List Nat)(p r z:Nat):Prop where
 le:r≤2147483647
 low:bs.getD p 0<128→r=bs.getD p 0∧z=1
 high:128≤bs.getD p 0→128≤r
theorem Rune.dv (h:Rune bs p r z):dv r=dv (bs.getD p 0):=by
 by_cases h1:bs.getD p 0<128
 ·rw [(h.low h1).1]
 ·rw [D7 (h.high (by omega)),D7 (by omega)]
theorem Rune.one (h:Rune bs p r z)(hd:Go.Proofs.YtkepckmdjncehaaGreatDoor.dv r<36):z=1∧r=bs.getD p 0∧r<128:=by
 by_cases h1:bs.getD p 0<128
 ·exact⟨(h.low h1).2,(h.low h1).1,by rw [(h.low h1).1];exact h1⟩
 ·rw [D7 (h.high (by omega))] at hd;omega
theorem SJ (hb:∀b,b∈bs→b<256)(hp:p<bs.length):Rune bs p (Utf8.decode (a8 bs) p).1 (Utf8.decode (a8 bs) p).2:=by
 refine⟨decode_le _ _,fun h=>by rw [a0H hb hp h];exact⟨rfl,rfl⟩,fun h=>?_⟩
 have hs:p<(a8 bs).size:=by rw [cM];exact hp
 exact (decode_high (a8 bs) p hs (by rw [uP hb hp hs];exact h)).1
section
variable {P:cD}{Q:Exit→Act→a6→Prop}{n:Nat}{l:Fr}{w:a6}{ops:Array aX}{rest:List aX}{d:Nat}{ty:aT}{pos:String}{af:Array Edge}{gd:Option (Nat×Bool)}
theorem F7 {x:cS}(hw:dI ops l gd=some true)(hx:bZ l x=some (.pointer (some ⟨g,0,none⟩)))(hb:∀b,b∈bs→b<256)(h:It w g bs p)(hp:p<bs.length)(hn:d<n)(k:∀w' r z,Rune bs p r z→It w' g bs (p+z)→Upd g w w'→wl P ops Q n rest ((d,.tuple #[.bool true,.int .i64 (p:Int),.int .i32 (r:Int)])::l) w'):
  wl P ops Q n (⟨some d,.next x true,ty,pos,af,gd⟩::rest) l w:=
 OZ hw hx h hp hn fun w' h1 h2=>k w' _ _ (SJ hb hp) h1 h2
theorem P3 {x y:cS}{z:aH}(hw:dI ops l gd=some true)(hx:bZ l x=some (.int .i64 0))(hy:bZ l y=some (.int .i64 (k:Int)))(ht:P.underlying t=some (.slice e))(hinfo:(P.info? e).map (fun i=>(i.zero,i.size,i.bytes))=some (some z,1,1))(_hz:z.cells= #[z])(hk:k≤1099511627776)(hd:d<n)(h:∀g w',Own w' w.heap.size e 1 (some ⟨g,0,none⟩) 0 k []→Ext w w'→wl P ops Q n rest ((d,.slice (some ⟨g,0,none⟩) 0 k)::l) w'):wl P ops Q n (⟨some d,.makeSlice t x y,ty,pos,af,gd⟩::rest) l w:=by
 obtain⟨i,hi,hz0,hz1,hz2⟩:=info_parts hinfo
 have hr:=run_make (P:=P) w t e i _ ht hi hz0 .i64 .i64 0 (k:Int) (by omega) (by omega) (by rw [hz2];omega) (by omega)
 rw [gV,show (0:Int).toNat=0 from rfl,hz1] at hr
 obtain⟨cs,hcs,hcl⟩:∃cs:List aH,madeCells z.cells (k*1)=cs.toArray∧cs.length=k*1:=⟨(madeCells z.cells (k*1)).toList,Array.toArray_toList.symm,by rw [Array.length_toList,size_madeCells]⟩
 rw [hcs] at hr
 refine fJ hw hd (fun a' ha=>?_) (h _ (w.alloc (.cells cs.toArray e)) (bR ⟨w.heap.size,cs,rfl,b8 _,Bk.new _ _ _,bW _,by rw [eY];omega,hcl,rfl⟩) ((Ext.refl w).alloc _))
 have e':(rB t (a'.eval x) (a'.eval y)).run P w= .ok (.slice (some ⟨w.heap.size,0,none⟩) 0 k) (w.alloc (.cells cs.toArray e)):=by rw [ha.ev hx,ha.ev hy];exact hr
 show ((rB t (a'.eval x) (a'.eval y)>>=fun r=>pure (fZ r):Sem Next)).run P w=_
 rw [cK,e'];rfl
end
theorem a0K (h:x≤255):bV .u8 (IntKind.u8.wrap (x:Int))= .int .u8 (x:Int):=by rw [IntWalk.u8_in _ ⟨by omega,by omega⟩]
theorem s8 {A B:Int}{a:Nat}(ha:A=(a:Int))(hb:B=(b:Int))(h:b≤a:=by omega)(h2:a≤2147483647:=by omega):fQ .sub .i32 A B=some ((a-b:Nat):Int):=by
 subst ha hb;simp only [fQ,fL];rw [show (a:Int)-(b:Int)=((a-b:Nat):Int) by omega,IntWalk.i32_in _ ⟨by omega,by omega⟩]
structure Rb (b:Nat)(w:a6)(A:Option aC)(n c:Nat)(xs:List Nat):Prop where
 rv:Rv w 1 A n c (xs.map B8)
 wf:∀x,x∈xs→x<b
theorem Rb.ext {w w':a6}(h:Rb b w A n c xs)(e:Ext w w'):Rb b w' A n c xs:=⟨h.rv.ext e,h.wf⟩
theorem Rb.len {w:a6}(h:Rb b w A n c xs):xs.length=n:=by simpa using h.rv.len
theorem Rb.dig {w:a6}(h:Rb b w A n c xs)(hi:i<n):xs.getD i 0<b:=by
 have hl:=h.len
 refine h.wf _ ?_
 rw [bC,cJ (by omega)]
 exact mI (by omega)
theorem Rb.at (_:True){w:a6}(h:Rb b w A n c xs)(hi:i<n):
  ∃p,A.map (·.add (i*1))=some p∧w.cell? p=some (.int .u8 ((xs.getD i 0:Nat):Int))∧xs.getD i 0<b:=by
 have hl:=h.len
 obtain⟨a,rfl,hc⟩:=h.rv.get i (by omega)
 refine⟨a.add i,by rw [cI];rfl,?_,h.dig hi⟩
 rw [hc,bC,kK,cJ (by omega),bC,cJ (by omega)]
 rfl
theorem Rb.take {w:a6}(h:Rb b w A n c xs)(hk:k≤n):Rb b w A k c (xs.take k):=by
 have hl:=h.len
 have hle:=h.rv.le
 refine⟨⟨by rw [List.length_map,bJ,hl];omega,by omega,h.rv.max,fun i hi=>?_,h.rv.blk⟩,fun x hx=>h.wf x (l5 hx)⟩
 obtain⟨a,ha,hc⟩:=h.rv.get i (by omega)
 refine⟨a,ha,hc.trans ?_⟩
 rw [k5,bC,bC,kJ,if_pos (by omega)]
theorem Rb.drop {w:a6}(h:Rb b w A n c xs)(hk:k≤n):Rb b w (if c=k then A else A.map (·.add (k*1))) (n-k) (c-k) (xs.drop k):=by
 have hle:=h.rv.le
 have hl:=h.len
 refine⟨⟨by rw [List.length_map,cV,hl,cI],by omega,by have:=h.rv.max;omega,fun i hi=>?_,fun a ha hc=>?_⟩,fun x hx=>h.wf x (gK hx)⟩
 ·rw [if_neg (by omega)]
  obtain⟨a,rfl,hc⟩:=h.rv.get (k+i) (by omega)
  refine⟨a.add (k*1),rfl,?_⟩
  rw [cI,Addr.add_add,hc]
  simp [bC,kK,oK]
 ·rw [if_neg (by omega)] at ha
  cases A with
  | none=>cases ha
  | some p=>
   cases ha
   rw [pJ]
   exact h.rv.blk p rfl (by omega)
theorem Own.rb {w:a6}(h:Own w lb 5 1 A n c (xs.map B8))(hd:∀x,x∈xs→x<b):Rb b w A n c xs:=⟨h.rv,hd⟩
theorem uR (A:Option aC)(n c k:Nat):wK (if c=k then A else A.map (·.add (k*1))) (n-k) (c-k)= .slice (if c=k then A else A.map (·.add (k*1))) (n-k) (c-k):=rfl
section
variable {w:a6}{b:Nat}
theorem xS (hb:b≤w.heap.size)(hx:Wi w A n c x)(hy:Wi w B m d y)(hN:n+m≤274877906944:=by omega):aO aF 125 #[.slice A n c,.slice B m d] w (Gv w (WR b (x*y))):=by
 obtain⟨xs,h1,rfl⟩:=hx;obtain⟨ys,h2,rfl⟩:=hy
 exact (CM h1 h2 hN).mono (gw hb)
theorem WU {cap':Nat}(hx:Rd w A n cap xs)(hy:Rd w B m cap' ys)(hz:Rd w C k c zs)(hN:n+m≤274877906944)(hk:k≤1099511627775):
  aO aF 274 #[.slice A n cap,.slice B m cap',.slice C k c] w (jW w (nv xs*nv ys+nv zs)):=by
 go_enter Tryz.func274,Tryz.ntmps274
 go_wp2_with fail
 refine (K7 hx hy hN).mono ?_
 rintro e w1 ⟨k1,hk1,g1,z1,rfl,hg1,hb1,hw1,hl1,hv1,hx1⟩
 have hk1b:k1≤n+m:=by
  rw [hk1.out]
  have h1:=iM hx.wf
  have h2:=iM hy.wf
  rw [hx.len] at h1
  rw [hy.len] at h2
  omega
 go_wp2_with fail
 refine (CL (NewP.rd hb1 hw1 hl1.out (by omega)) (by omega) (hz.ext hx1) hk).mono ?_
 rintro e w2 ⟨A2,n2,c2,rfl,hn2,hr2,ho2,hx2⟩
 go_wp2_with fail
 go_ret
 rw [hv1.out] at hn2 hr2 ho2
 exact⟨A2,n2,c2,rfl,hn2,hr2,ho2.mono hx1.size,hx1.trans hx2⟩
theorem S6 (hb:b≤w.heap.size){bn bc cn cc:Nat}(hx:Wi w A an ac x)(hy:Wi w B bn bc y)(hz:Wi w C cn cc z)(hN:an+bn≤274877906944)(hcn:cn≤1099511627775):aO aF 274 #[.slice A an ac,.slice B bn bc,.slice C cn cc] w (Gv w (WR b (x*y+z))):=by
 obtain⟨xs,h1,rfl⟩:=hx;obtain⟨ys,h2,rfl⟩:=hy;obtain⟨zs,h3,rfl⟩:=hz
 exact (WU h1 h2 h3 hN hcn).mono (gw hb)
theorem S9 (hb:b≤w.heap.size)(hx:Wi w A n c x)(hl:n≤1099511627775)(hy:Wi w B m d y)(hl':m≤1099511627775):aO aF 145 #[.slice A n c,.slice B m d] w (Gv w (WR b (x+y))):=by
 obtain⟨xs,h1,rfl⟩:=hx;obtain⟨ys,h2,rfl⟩:=hy
 exact (CL h1 hl h2 hl').mono (gw hb)
theorem S5 (hb:b≤w.heap.size)(hx:Wi w A n c x)(hl:n≤137438953472)(hv:v≤18446744073709551615):aO aF 247 #[.slice A n c,.int .u64 (v:Int)] w (Gv w (WR b (x*v))):=by
 obtain⟨xs,h1,rfl⟩:=hx
 exact (WS h1 hl hv).mono (gw hb)
theorem S7 (hb:b≤w.heap.size)(hx:Wi w A n c m)(hl:n≤1099511627776):aO aF 141 #[.slice A n c] w (Gv w (WR b m)):=(LC hx hl).mono (Gv.imp (WR.imp hb))
end
theorem vQ (hb2:b≤36)(h:∀d,d∈ds→d<b)(hb:1≤b:=by omega):(wd (cG b ds)).length≤ds.length:=
 fY (dF (BC hb ds h) (Nat.pow_le_pow_left (by rw [cF];omega) _))
theorem kA (hb2:b≤36:=by decide):(wd (b^n)).length≤n+1:=
 fY (iH (Nat.pow_le_pow_left (show b≤WB by rw [cF];omega) n) (Nat.pow_lt_pow_right (show 1<WB by rw [cF];omega) (Nat.lt_succ_self n)))
theorem IX:p*(b*b)^(n/2)*b^(n%2)=p*b^n:=by
 rw [←Nat.pow_two,←Nat.pow_mul,bH,←bX]
 congr 2
 omega
theorem IW (h:n%2=1):p*b*(b*b)^(n/2)=p*b^n:=by
 have:=IX (p:=p) (b:=b) (n:=n)
 rw [h,Nat.pow_one] at this
 rw [←this,bH,bH,bY b]
theorem IY (h:¬n%2=1):p*(b*b)^(n/2)=p*b^n:=by
 have:=IX (p:=p) (b:=b) (n:=n)
 rw [show n%2=0 by omega,Nat.pow_zero,cI] at this
 exact this
theorem V6 (h:n=1):p*b*c^(n/2)=p*b^n:=by subst h;simp
theorem IZ (h:p*b^n=X)(hp:1≤p)(hb:1≤b)(hn:0<n):b≤X:=by
 rw [←h]
 have h1:b^1≤b^n:=dU hb hn
 rw [Nat.pow_one] at h1
 exact aG h1 (Nat.le_mul_of_pos_left _ hp)
theorem IV (h:p*b^n=X)(hb:1≤b):p≤X:=by
 rw [←h];exact Nat.le_mul_of_pos_right _ (eP hb)
theorem PP (hk:k≤xs.length):cG b (pre++xs.take k)=cG b pre*b^k+cG b (xs.take k):=by
 rw [BE,bJ,fT hk]
theorem G0 (h:i<n)(hn:n≤xs.length):xs.take (i+1)=xs.take i++ [(xs.take n).getD i 0]:=by
 rw [List.take_add_one,bC,kJ,if_pos h,cJ (by omega)]
 rfl
set_option maxHeartbeats 4000000 in
theorem RV {w:a6}(hc:c≤2147483647):
    aO aF 244 #[.int .i32 ((c:Nat):Int)] w (Gv w (Is (.int .i64 ((dv c:Nat):Int)))):=by
 refine bK Tryz.func244 rfl (n:=35) rfl (bq rfl) (args:= [.int .i32 ((c:Nat):Int)]) (bE [(0,.int .i32 ((c:Nat):Int))] ⟨rfl,trivial⟩ (sr (mv 1 rfl (a0 (aA (bG (aA ?_)))))))
 by_cases ha48:c≥48
 · 
  by_cases hb57:c≤57
  · 
   refine a7 (mv 1 rfl (aB rfl rfl rfl true (eI (a:=c) (b:=48) rfl rfl) (mv 2 rfl (aB rfl rfl rfl true (lV (a:=c) (b:=57) rfl rfl) (pu (v:= .bool true) rfl (mv 1 rfl (a0 (aP rfl (sr (mv 1 rfl (aE rfl rfl rfl ((c-48:Nat):Int) (s8 (a:=c) (b:=48) rfl rfl) (bD rfl rfl (v:= .int .i64 (IntKind.i64.wrap ((c-48:Nat):Int))) (v':= .int .i64 ((c-48:Nat):Int)) (lS (by first | omega | exact hle64)) (mv 1 rfl ?_)))))))))))))
   refine a0 (aM (eC (bL (aL [.int .i64 ((c-48:Nat):Int)] rfl ⟨rfl,trivial⟩ ?_))))
   have hv:c-48=dv c:=by unfold dv;(repeat' split) <;> omega
   exact⟨_,rfl,(show bV .i64 ((c-48:Nat):Int)=_ by rw [hv]),(Ext.refl w)⟩
  · 
   refine a7 (mv 1 rfl (aB rfl rfl rfl true (eI (a:=c) (b:=48) rfl rfl) (mv 2 rfl (aB rfl rfl rfl false (lW (a:=c) (b:=57) rfl rfl) (pu (v:= .bool false) rfl (mv 1 rfl (a0 (aI rfl (aA ?_)))))))))
   by_cases ha97:c≥97
   · 
    by_cases hb122:c≤122
    · 
     refine a7 (mv 1 rfl (aB rfl rfl rfl true (eI (a:=c) (b:=97) rfl rfl) (mv 2 rfl (aB rfl rfl rfl true (lV (a:=c) (b:=122) rfl rfl) (pu (v:= .bool true) rfl (mv 1 rfl (a0 (aP rfl (sr (mv 1 rfl (aE rfl rfl rfl ((c-97:Nat):Int) (s8 (a:=c) (b:=97) rfl rfl) (bD rfl rfl (v:= .int .i64 (IntKind.i64.wrap ((c-97:Nat):Int))) (v':= .int .i64 ((c-97:Nat):Int)) (lS (by first | omega | exact hle64)) (aE rfl rfl rfl (((c-97)+10:Nat):Int) (bF (a:=c-97) (b:=10) rfl rfl) ?_)))))))))))))
     refine mv 1 rfl (a0 (aM (eC (bL (aL [.int .i64 (((c-97)+10:Nat):Int)] rfl ⟨rfl,trivial⟩ ?_)))))
     have hv:(c-97)+10=dv c:=by unfold dv;(repeat' split) <;> omega
     exact⟨_,rfl,(show bV .i64 (((c-97)+10:Nat):Int)=_ by rw [hv]),(Ext.refl w)⟩
    · 
     refine a7 (mv 1 rfl (aB rfl rfl rfl true (eI (a:=c) (b:=97) rfl rfl) (mv 2 rfl (aB rfl rfl rfl false (lW (a:=c) (b:=122) rfl rfl) (pu (v:= .bool false) rfl (mv 1 rfl (a0 (aI rfl (aA ?_)))))))))
     by_cases ha65:c≥65
     · 
      by_cases hb90:c≤90
      · 
       refine a7 (mv 1 rfl (aB rfl rfl rfl true (eI (a:=c) (b:=65) rfl rfl) (mv 2 rfl (aB rfl rfl rfl true (lV (a:=c) (b:=90) rfl rfl) (pu (v:= .bool true) rfl (mv 1 rfl (a0 (aP rfl (sr (mv 1 rfl (aE rfl rfl rfl ((c-65:Nat):Int) (s8 (a:=c) (b:=65) rfl rfl) (bD rfl rfl (v:= .int .i64 (IntKind.i64.wrap ((c-65:Nat):Int))) (v':= .int .i64 ((c-65:Nat):Int)) (lS (by first | omega | exact hle64)) (aE rfl rfl rfl (((c-65)+10:Nat):Int) (bF (a:=c-65) (b:=10) rfl rfl) ?_)))))))))))))
       refine mv 1 rfl (a0 (aM (eC (bL (aL [.int .i64 (((c-65)+10:Nat):Int)] rfl ⟨rfl,trivial⟩ ?_)))))
       have hv:(c-65)+10=dv c:=by unfold dv;(repeat' split) <;> omega
       exact⟨_,rfl,(show bV .i64 (((c-65)+10:Nat):Int)=_ by rw [hv]),(Ext.refl w)⟩
      · 
       refine a7 (mv 1 rfl (aB rfl rfl rfl true (eI (a:=c) (b:=65) rfl rfl) (mv 2 rfl (aB rfl rfl rfl false (lW (a:=c) (b:=90) rfl rfl) (pu (v:= .bool false) rfl (mv 1 rfl (a0 (aI rfl (aN (cA (aD (sr (mv 1 rfl ?_)))))))))))))
       refine a0 (aM (aL [.int .i64 36] rfl ⟨rfl,trivial⟩ ?_))
       have hv:36=dv c:=by unfold dv;(repeat' split) <;> omega
       exact⟨_,rfl,(show bV .i64 ((36:Nat):Int)=_ by rw [hv]),(Ext.refl w)⟩
     · 
      refine a7 (mv 1 rfl (aB rfl rfl rfl false (iF (a:=c) (b:=65) rfl rfl) (mv 3 rfl (pu (v:= .bool false) rfl (mv 1 rfl (a0 (aI rfl (aN (cA (aD (sr (mv 1 rfl (aU ?_)))))))))))))
      refine aD (aM (aL [.int .i64 36] rfl ⟨rfl,trivial⟩ ?_))
      have hv:36=dv c:=by unfold dv;(repeat' split) <;> omega
      exact⟨_,rfl,(show bV .i64 ((36:Nat):Int)=_ by rw [hv]),(Ext.refl w)⟩
   · 
    refine a7 (mv 1 rfl (aB rfl rfl rfl false (iF (a:=c) (b:=97) rfl rfl) (mv 3 rfl (pu (v:= .bool false) rfl (mv 1 rfl (a0 (aI rfl (aA ?_))))))))
    by_cases ha65:c≥65
    · 
     by_cases hb90:c≤90
     · 
      refine a7 (mv 1 rfl (aB rfl rfl rfl true (eI (a:=c) (b:=65) rfl rfl) (mv 2 rfl (aB rfl rfl rfl true (lV (a:=c) (b:=90) rfl rfl) (pu (v:= .bool true) rfl (mv 1 rfl (a0 (aP rfl (sr (mv 1 rfl (aE rfl rfl rfl ((c-65:Nat):Int) (s8 (a:=c) (b:=65) rfl rfl) (bD rfl rfl (v:= .int .i64 (IntKind.i64.wrap ((c-65:Nat):Int))) (v':= .int .i64 ((c-65:Nat):Int)) (lS (by first | omega | exact hle64)) (aE rfl rfl rfl (((c-65)+10:Nat):Int) (bF (a:=c-65) (b:=10) rfl rfl) ?_)))))))))))))
      refine mv 1 rfl (a0 (aM (eC (bL (aL [.int .i64 (((c-65)+10:Nat):Int)] rfl ⟨rfl,trivial⟩ ?_)))))
      have hv:(c-65)+10=dv c:=by unfold dv;(repeat' split) <;> omega
      exact⟨_,rfl,(show bV .i64 (((c-65)+10:Nat):Int)=_ by rw [hv]),(Ext.refl w)⟩
     · 
      refine a7 (mv 1 rfl (aB rfl rfl rfl true (eI (a:=c) (b:=65) rfl rfl) (mv 2 rfl (aB rfl rfl rfl false (lW (a:=c) (b:=90) rfl rfl) (pu (v:= .bool false) rfl (mv 1 rfl (a0 (aI rfl (aN (cA (aD (sr (mv 1 rfl ?_)))))))))))))
      refine a0 (aM (aL [.int .i64 36] rfl ⟨rfl,trivial⟩ ?_))
      have hv:36=dv c:=by unfold dv;(repeat' split) <;> omega
      exact⟨_,rfl,(show bV .i64 ((36:Nat):Int)=_ by rw [hv]),(Ext.refl w)⟩
    · 
     refine a7 (mv 1 rfl (aB rfl rfl rfl false (iF (a:=c) (b:=65) rfl rfl) (mv 3 rfl (pu (v:= .bool false) rfl (mv 1 rfl (a0 (aI rfl (aN (cA (aD (sr (mv 1 rfl (aU ?_)))))))))))))
     refine aD (aM (aL [.int .i64 36] rfl ⟨rfl,trivial⟩ ?_))
     have hv:36=dv c:=by unfold dv;(repeat' split) <;> omega
     exact⟨_,rfl,(show bV .i64 ((36:Nat):Int)=_ by rw [hv]),(Ext.refl w)⟩
 · 
  refine a7 (mv 1 rfl (aB rfl rfl rfl false (iF (a:=c) (b:=48) rfl rfl) (mv 3 rfl (pu (v:= .bool false) rfl (mv 1 rfl (a0 (aI rfl (aA ?_))))))))
  by_cases ha97:c≥97
  · 
   by_cases hb122:c≤122
   · 
    refine a7 (mv 1 rfl (aB rfl rfl rfl true (eI (a:=c) (b:=97) rfl rfl) (mv 2 rfl (aB rfl rfl rfl true (lV (a:=c) (b:=122) rfl rfl) (pu (v:= .bool true) rfl (mv 1 rfl (a0 (aP rfl (sr (mv 1 rfl (aE rfl rfl rfl ((c-97:Nat):Int) (s8 (a:=c) (b:=97) rfl rfl) (bD rfl rfl (v:= .int .i64 (IntKind.i64.wrap ((c-97:Nat):Int))) (v':= .int .i64 ((c-97:Nat):Int)) (lS (by first | omega | exact hle64)) (aE rfl rfl rfl (((c-97)+10:Nat):Int) (bF (a:=c-97) (b:=10) rfl rfl) ?_)))))))))))))
    refine mv 1 rfl (a0 (aM (eC (bL (aL [.int .i64 (((c-97)+10:Nat):Int)] rfl ⟨rfl,trivial⟩ ?_)))))
    have hv:(c-97)+10=dv c:=by unfold dv;(repeat' split) <;> omega
    exact⟨_,rfl,(show bV .i64 (((c-97)+10:Nat):Int)=_ by rw [hv]),(Ext.refl w)⟩
   · 
    refine a7 (mv 1 rfl (aB rfl rfl rfl true (eI (a:=c) (b:=97) rfl rfl) (mv 2 rfl (aB rfl rfl rfl false (lW (a:=c) (b:=122) rfl rfl) (pu (v:= .bool false) rfl (mv 1 rfl (a0 (aI rfl (aA ?_)))))))))
    by_cases ha65:c≥65
    · 
     by_cases hb90:c≤90
     · 
      refine a7 (mv 1 rfl (aB rfl rfl rfl true (eI (a:=c) (b:=65) rfl rfl) (mv 2 rfl (aB rfl rfl rfl true (lV (a:=c) (b:=90) rfl rfl) (pu (v:= .bool true) rfl (mv 1 rfl (a0 (aP rfl (sr (mv 1 rfl (aE rfl rfl rfl ((c-65:Nat):Int) (s8 (a:=c) (b:=65) rfl rfl) (bD rfl rfl (v:= .int .i64 (IntKind.i64.wrap ((c-65:Nat):Int))) (v':= .int .i64 ((c-65:Nat):Int)) (lS (by first | omega | exact hle64)) (aE rfl rfl rfl (((c-65)+10:Nat):Int) (bF (a:=c-65) (b:=10) rfl rfl) ?_)))))))))))))
      refine mv 1 rfl (a0 (aM (eC (bL (aL [.int .i64 (((c-65)+10:Nat):Int)] rfl ⟨rfl,trivial⟩ ?_)))))
      have hv:(c-65)+10=dv c:=by unfold dv;(repeat' split) <;> omega
      exact⟨_,rfl,(show bV .i64 (((c-65)+10:Nat):Int)=_ by rw [hv]),(Ext.refl w)⟩
     · 
      refine a7 (mv 1 rfl (aB rfl rfl rfl true (eI (a:=c) (b:=65) rfl rfl) (mv 2 rfl (aB rfl rfl rfl false (lW (a:=c) (b:=90) rfl rfl) (pu (v:= .bool false) rfl (mv 1 rfl (a0 (aI rfl (aN (cA (aD (sr (mv 1 rfl ?_)))))))))))))
      refine a0 (aM (aL [.int .i64 36] rfl ⟨rfl,trivial⟩ ?_))
      have hv:36=dv c:=by unfold dv;(repeat' split) <;> omega
      exact⟨_,rfl,(show bV .i64 ((36:Nat):Int)=_ by rw [hv]),(Ext.refl w)⟩
    · 
     refine a7 (mv 1 rfl (aB rfl rfl rfl false (iF (a:=c) (b:=65) rfl rfl) (mv 3 rfl (pu (v:= .bool false) rfl (mv 1 rfl (a0 (aI rfl (aN (cA (aD (sr (mv 1 rfl (aU ?_)))))))))))))
     refine aD (aM (aL [.int .i64 36] rfl ⟨rfl,trivial⟩ ?_))
     have hv:36=dv c:=by unfold dv;(repeat' split) <;> omega
     exact⟨_,rfl,(show bV .i64 ((36:Nat):Int)=_ by rw [hv]),(Ext.refl w)⟩
  · 
   refine a7 (mv 1 rfl (aB rfl rfl rfl false (iF (a:=c) (b:=97) rfl rfl) (mv 3 rfl (pu (v:= .bool false) rfl (mv 1 rfl (a0 (aI rfl (aA ?_))))))))
   by_cases ha65:c≥65
   · 
    by_cases hb90:c≤90
    · 
     refine a7 (mv 1 rfl (aB rfl rfl rfl true (eI (a:=c) (b:=65) rfl rfl) (mv 2 rfl (aB rfl rfl rfl true (lV (a:=c) (b:=90) rfl rfl) (pu (v:= .bool true) rfl (mv 1 rfl (a0 (aP rfl (sr (mv 1 rfl (aE rfl rfl rfl ((c-65:Nat):Int) (s8 (a:=c) (b:=65) rfl rfl) (bD rfl rfl (v:= .int .i64 (IntKind.i64.wrap ((c-65:Nat):Int))) (v':= .int .i64 ((c-65:Nat):Int)) (lS (by first | omega | exact hle64)) (aE rfl rfl rfl (((c-65)+10:Nat):Int) (bF (a:=c-65) (b:=10) rfl rfl) ?_)))))))))))))
     refine mv 1 rfl (a0 (aM (eC (bL (aL [.int .i64 (((c-65)+10:Nat):Int)] rfl ⟨rfl,trivial⟩ ?_)))))
     have hv:(c-65)+10=dv c:=by unfold dv;(repeat' split) <;> omega
     exact⟨_,rfl,(show bV .i64 (((c-65)+10:Nat):Int)=_ by rw [hv]),(Ext.refl w)⟩
    · 
     refine a7 (mv 1 rfl (aB rfl rfl rfl true (eI (a:=c) (b:=65) rfl rfl) (mv 2 rfl (aB rfl rfl rfl false (lW (a:=c) (b:=90) rfl rfl) (pu (v:= .bool false) rfl (mv 1 rfl (a0 (aI rfl (aN (cA (aD (sr (mv 1 rfl ?_)))))))))))))
     refine a0 (aM (aL [.int .i64 36] rfl ⟨rfl,trivial⟩ ?_))
     have hv:36=dv c:=by unfold dv;(repeat' split) <;> omega
     exact⟨_,rfl,(show bV .i64 ((36:Nat):Int)=_ by rw [hv]),(Ext.refl w)⟩
   · 
    refine a7 (mv 1 rfl (aB rfl rfl rfl false (iF (a:=c) (b:=65) rfl rfl) (mv 3 rfl (pu (v:= .bool false) rfl (mv 1 rfl (a0 (aI rfl (aN (cA (aD (sr (mv 1 rfl (aU ?_)))))))))))))
    refine aD (aM (aL [.int .i64 36] rfl ⟨rfl,trivial⟩ ?_))
    have hv:36=dv c:=by unfold dv;(repeat' split) <;> omega
    exact⟨_,rfl,(show bV .i64 ((36:Nat):Int)=_ by rw [hv]),(Ext.refl w)⟩
set_option maxHeartbeats 4000000 in
theorem RW {w:a6}(hbl:2≤base)(hbu:base≤36)(hn:n≤68719476736):
    aO aF 275 #[.int .i64 base,.int .i64 n] w (Gv w (WR w.heap.size (base^n))):=by
 refine bK Tryz.func275 rfl (n:=26) rfl (bq rfl) (args:= [.int .i64 base,.int .i64 n]) (bE [(0,.int .i64 base),(1,.int .i64 n)] ⟨rfl,rfl,trivial⟩ (sr (mv 1 rfl (a0 (sr (dQ rfl rfl (k:=1) (e:=65) [.int .u64 1] (fun _=>by kernel_rfl) fun g1 v2 nb3=>?_))))))
 have o4:=O1.mk_ (x:=1) (b:=w.heap.size) nb3 (Ext.refl w).size
 have e5:=nb3.ext
 have hw1:=(Ext.refl w).trans e5
 have o7:=iK o4 (show 1≤18446744073709551615 by decide) (show 1≠0 by decide)
 have j6:=hZ (show 1≤18446744073709551615 by decide) (show 1≠0 by decide)
 refine mv 1 rfl (bD rfl rfl (v:= .int .u64 (IntKind.u64.wrap ((base:Nat):Int))) (v':= .int .u64 base) (eD (by first | omega | exact hle64)) (dQ rfl rfl (k:=1) (e:=65) [.int .u64 base] (fun _=>by kernel_rfl) fun g8 v9 nb10=>?_))
 have o11:=O1.mk_ (x:=base) (b:=w.heap.size) nb10 hw1.size
 have e12:=nb10.ext
 have hw2:=hw1.trans e12
 have o14:=iK o11 (show base≤18446744073709551615 by omega) (show base≠0 by omega)
 have j13:=hZ (show base≤18446744073709551615 by omega) (show base≠0 by omega)
 refine mv 2 rfl (a0 (aA (bG ?_)))
 refine d4 (T:=a6×Nat×Nat×Nat×Option aC×Nat×Nat×Option aC×Nat×Nat)
  (fun⟨wr,e,p,b,PA,pn,pc,BA,bn,bc⟩=> [(0,.int .i64 base),(1,.int .i64 e),(5,.slice PA pn pc),(6,.slice BA bn bc)])
  (fun⟨wr,e,p,b,PA,pn,pc,BA,bn,bc⟩=>wr)
  (fun⟨wr,e,p,b,PA,pn,pc,BA,bn,bc⟩=>(Ext w wr)∧(p*b^e=base^n)∧(1≤p)∧(1≤b)∧(pn=(wd p).length)∧(bn=(wd b).length)∧(Own wr w.heap.size 65 1 PA pn pc ((wd p).map aW))∧(Own wr w.heap.size 65 1 BA bn bc ((wd b).map aW))∧(e≤n))
  (fun⟨wr,e,p,b,PA,pn,pc,BA,bn,bc⟩=>e)
  (⟨v9,n,1,base,(some ⟨g1,0,none⟩),1,1,(some ⟨g8,0,none⟩),1,1⟩:a6×Nat×Nat×Nat×Option aC×Nat×Nat×Option aC×Nat×Nat) ⟨hw2,(by rw [Nat.one_mul]),(by decide),(by omega),j6,j13,(o7.ext e12),o14,(b8 _)⟩ rfl ⟨rfl,rfl,rfl,rfl,trivial⟩ ?_
 rintro⟨wr,e,p,b,PA,pn,pc,BA,bn,bc⟩ ⟨hw1,hI,hp1,hb1,hpn,hbn,hpo,hbo,he⟩
 refine cC [(0,.int .i64 base),(1,.int .i64 e),(5,.slice PA pn pc),(6,.slice BA bn bc)] wr rfl ⟨rfl,rfl,rfl,rfl,trivial⟩ (aA (aA ?_))
 by_cases he0:e>0
 · 
  have hpK:=aG (gZ (IV hI hb1)) (kA (n:=n) (hb2:=hbu))
  have hbK:=aG (gZ (IZ hI hp1 hb1 he0)) (kA (n:=n) (hb2:=hbu))
  refine a7 (mv 1 rfl (aB rfl rfl rfl true (dJ (a:=e) (b:=0) rfl rfl) (a0 (aP rfl (aN (aD (aA (bG (aA (aA ?_))))))))))
  by_cases ho:e%2=1
  · 
   refine a7 (mv 1 rfl (aE rfl rfl rfl ((e%2:Nat):Int) (fC (a:=e) (b:=2) rfl rfl) (aB rfl rfl rfl true (dA (a:=e%2) (b:=1) rfl rfl) (a0 (aP rfl (a7 (mv 2 rfl (cl (vs:= [.slice PA pn pc,.slice BA bn bc]) hw1 (xS hw1.size hpo.wi hbo.wi) rfl (by kernel_rfl) fun xr17 v15 r17 e16 hw2=>?_))))))))
   obtain⟨A18,n18,c18,rfl,j18,o18⟩:=r17
   refine mv 1 rfl (a0 (aA ?_))
   by_cases hg:e>1
   · 
    refine a7 (mv 1 rfl (aB rfl rfl rfl true (dJ (a:=e) (b:=1) rfl rfl) (a0 (aP rfl (a7 (mv 1 rfl (cl (vs:= [.slice BA bn bc]) hw2 (uU hw2.size (hbo.ext e16).wi) rfl (by kernel_rfl) fun xr21 v19 r21 e20 hw3=>?_)))))))
    obtain⟨A22,n22,c22,rfl,j22,o22⟩:=r21
    refine mv 1 rfl (aU (cA (aD (a7 (mv 1 rfl (aE rfl rfl rfl ((e/2:Nat):Int) (iS (a:=e) (b:=2) rfl rfl) (mv 1 rfl (aU (cH (⟨v19,e/2,p*b,b*b,A18,n18,c18,A22,n22,c22⟩:a6×Nat×Nat×Nat×Option aC×Nat×Nat×Option aC×Nat×Nat) ⟨hw3,(by rw [IW ho];exact hI),(by first | decide | omega | exact fS hp1 hb1),(by first | assumption | exact fS hb1 hb1),j18,j22,(o18.ext e20),o22,(aG (fI _ _) he)⟩ (jZ he0 (by decide)) rfl ⟨rfl,rfl,rfl,rfl,trivial⟩)))))))))
   · 
    refine a7 (mv 1 rfl (aB rfl rfl rfl false (d6 (a:=e) (b:=1) rfl rfl) (a0 (aI rfl (aN (cA (aD (a7 (mv 1 rfl (aE rfl rfl rfl ((e/2:Nat):Int) (iS (a:=e) (b:=2) rfl rfl) (mv 1 rfl (aU (cH (⟨v15,e/2,p*b,b,A18,n18,c18,BA,bn,bc⟩:a6×Nat×Nat×Nat×Option aC×Nat×Nat×Option aC×Nat×Nat) ⟨hw2,(by rw [V6 (by omega)];exact hI),(by first | decide | omega | exact fS hp1 hb1),(by first | assumption | exact fS hb1 hb1),j18,hbn,o18,(hbo.ext e16),(aG (fI _ _) he)⟩ (jZ he0 (by decide)) rfl ⟨rfl,rfl,rfl,rfl,trivial⟩)))))))))))))
  · 
   refine a7 (mv 1 rfl (aE rfl rfl rfl ((e%2:Nat):Int) (fC (a:=e) (b:=2) rfl rfl) (aB rfl rfl rfl false (dC (a:=e%2) (b:=1) rfl rfl) (a0 (aI rfl (aN (aD (aA ?_))))))))
   by_cases hg:e>1
   · 
    refine a7 (mv 1 rfl (aB rfl rfl rfl true (dJ (a:=e) (b:=1) rfl rfl) (a0 (aP rfl (a7 (mv 1 rfl (cl (vs:= [.slice BA bn bc]) hw1 (uU hw1.size hbo.wi) rfl (by kernel_rfl) fun xr25 v23 r25 iE hw2=>?_)))))))
    obtain⟨A26,n26,c26,rfl,j26,o26⟩:=r25
    refine mv 1 rfl (aU (cA (aD (a7 (mv 1 rfl (aE rfl rfl rfl ((e/2:Nat):Int) (iS (a:=e) (b:=2) rfl rfl) (mv 1 rfl (aU (cH (⟨v23,e/2,p,b*b,PA,pn,pc,A26,n26,c26⟩:a6×Nat×Nat×Nat×Option aC×Nat×Nat×Option aC×Nat×Nat) ⟨hw2,(by rw [IY ho];exact hI),(by first | decide | omega | exact fS hp1 hb1),(by first | assumption | exact fS hb1 hb1),hpn,j26,(hpo.ext iE),o26,(aG (fI _ _) he)⟩ (jZ he0 (by decide)) rfl ⟨rfl,rfl,rfl,rfl,trivial⟩)))))))))
   · 
    refine a7 (mv 1 rfl (aB rfl rfl rfl false (d6 (a:=e) (b:=1) rfl rfl) (a0 (aI rfl (aN (cA (aD (a7 (mv 1 rfl (aE rfl rfl rfl ((e/2:Nat):Int) (iS (a:=e) (b:=2) rfl rfl) (mv 1 rfl (aU (cH (⟨wr,e/2,p,b,PA,pn,pc,BA,bn,bc⟩:a6×Nat×Nat×Nat×Option aC×Nat×Nat×Option aC×Nat×Nat) ⟨hw1,(by omega),(by first | decide | omega | exact fS hp1 hb1),(by first | assumption | exact fS hb1 hb1),hpn,hbn,hpo,hbo,(aG (fI _ _) he)⟩ (jZ he0 (by decide)) rfl ⟨rfl,rfl,rfl,rfl,trivial⟩)))))))))))))
 · 
  refine a7 (mv 1 rfl (aB rfl rfl rfl false (d6 (a:=e) (b:=0) rfl rfl) (a0 (aI rfl (cR (cN (cP (cQ (aD (sr (mv 2 rfl (a0 (aM ?_)))))))))))))
  refine aL [.slice PA pn pc] rfl ⟨rfl,trivial⟩ ?_
  have e0:e=0:=by omega
  subst e0
  rw [Nat.pow_zero,cI] at hI
  subst hI
  exact⟨_,rfl,⟨_,_,_,rfl,hpn,hpo⟩,hw1⟩
theorem PN (hl:ds.length=n)(hk:k≤n):cG b (ds.take (n-k))*b^k+cG b (ds.drop (n-k))=cG b ds:=by
 have h:=BE b (ds.take (n-k)) (ds.drop (n-k))
 rw [pS,cV,hl,show n-(n-k)=k by omega] at h
 exact h.symm
theorem PieceK.pos (h:PieceK b k)(hb:b≤36):1≤k:=by
 rcases Nat.eq_zero_or_pos k with e | e
 ·have:=h.gt;rw [e,f9,Nat.pow_one] at this;omega
 ·exact e
theorem QU (hk:PieceK b k)(hb:1≤b)(hi:i+1≤k)(hv:v<b^i)(hx:x<b):v*b+x≤18446744073709551615∧b^i*b≤18446744073709551615:=by
 have h1:b^(i+1)≤b^k:=dU hb hi
 rw [cB] at h1
 have h2:=hk.le
 have h3:(v+1)*b≤b^i*b:=eA b hv
 rw [dX,Nat.one_mul] at h3
 exact⟨by omega,by omega⟩
theorem XL (h:x≤18446744073709551615):(wd x).length≤1:=fY (by rw [Nat.pow_one,cF];omega)
theorem CO (h:∀x,x∈xs→x<b)(k:Nat):∀x,x∈xs.take k→x<b:=fun x hx=>h x (l5 hx)
theorem X3 (h:∀x,x∈xs→x<b)(k:Nat):∀x,x∈xs.drop k→x<b:=fun x hx=>h x (gK hx)
def NT (N:Nat):Prop:=∀{w:a6}{A:Option aC}{n c base:Nat}{ds:List Nat},n≤N→2≤base→base≤36→Rb base w A n c ds→n≤17179869184→
 aO aF 245 #[.slice A n c,.int .i64 base] w (Gv w (WR w.heap.size (cG base ds)))
set_option maxHeartbeats 4000000 in
theorem RX (ih:NT N){w:a6}(hnN:n≤N+1)(hbl:2≤base)(hbu:base≤36)(hd:Rb base w A n c ds)(hn:n≤17179869184)(hbig:200<n):
    aO aF 245 #[.slice A n c,.int .i64 base] w (Gv w (WR w.heap.size (cG base ds))):=by
 have hB1:(wd (cG base (ds.take (n-(n/2))))).length≤n:=by have:=vQ hbu (CO hd.wf (n-(n/2)));rw [bJ,hd.len] at this;omega
 have hB2:(wd (cG base (ds.drop (n-(n/2))))).length≤n:=by have:=vQ hbu (X3 hd.wf (n-(n/2)));rw [cV,hd.len] at this;omega
 have hB3:(wd (base^(n/2))).length≤n/2+1:=kA (hb2:=hbu)
 refine bK Tryz.func245 rfl (n:=81) rfl (bq rfl) (args:= [.slice A n c,.int .i64 base]) (bE [(0,.slice A n c),(1,.int .i64 base)] ⟨rfl,rfl,trivial⟩ (sr (mv 1 rfl (a0 (aA (sr (mv 1 rfl (pu (v:= .int .i64 n) rfl (aB rfl rfl rfl true (dJ (a:=n) (b:=200) rfl rfl) (a0 (aP rfl (sr (mv 1 rfl ?_)))))))))))))
 refine pu (v:= .int .i64 n) rfl (aE rfl rfl rfl ((n/2:Nat):Int) (iS (a:=n) (b:=2) rfl rfl) (mv 1 rfl (a0 (sr (mv 1 rfl (pu (v:= .int .i64 n) rfl (mv 1 rfl (aE rfl rfl rfl ((n-(n/2):Nat):Int) (eR (a:=n) (b:=n/2) rfl rfl) (mv 1 rfl (a0 (aA ?_)))))))))))
 refine gR eZ 14 [] [Is (.slice A n c),Is (.int .i64 ((n-(n/2):Nat):Int)),Is (.slice A (n-(n/2)) c),Is (.int .i64 base),WR w.heap.size (cG base (ds.take (n-(n/2)))),Is (.int .i64 base),Is (.int .i64 ((n/2:Nat):Int)),WR w.heap.size (base^(n/2)),Is (.slice A n c),Is (.int .i64 ((n-(n/2):Nat):Int)),Is (.slice (if c=n-(n/2) then A else A.map (·.add ((n-(n/2))*1))) (n-(n-(n/2))) (c-(n-(n/2)))),Is (.int .i64 base),WR w.heap.size (cG base (ds.drop (n-(n/2)))),WR w.heap.size ((cG base (ds.take (n-(n/2))))*(base^(n/2))+(cG base (ds.drop (n-(n/2)))))] [[],[],[0,1],[],[2,3],[],[],[5,6],[],[],[8,9],[],[10,11],[4,7,12]] [[],[],[0,1],[],[0,1,2,3],[],[],[0,1,2,3,4,5,6],[],[],[8,9],[],[0,1,2,3,4,5,6,7,8,9,10,11],[0,1,2,3,4,5,6,7,8,9,10,11,12],[0,1,2,3,4,5,6,7,8,9,10,11,12,13]] rfl
  (aR rfl rfl (aK rfl rfl ?_) (aR rfl rfl (aK rfl rfl ?_) (aR rfl rfl (aK rfl rfl ?_) (aR rfl rfl (aK rfl rfl ?_) (aR rfl rfl (aK rfl rfl ?_) (aR rfl rfl (aK rfl rfl ?_) (aR rfl rfl (aK rfl rfl ?_) (aR rfl rfl (aK rfl rfl ?_) (aR rfl rfl (aK rfl rfl ?_) (aR rfl rfl (aK rfl rfl ?_) (aR rfl rfl (aK rfl rfl ?_) (aR rfl rfl (aK rfl rfl ?_) (aR rfl rfl (aK rfl rfl ?_) (aR rfl rfl (aK rfl rfl ?_) gP)))))))))))))) ?_
 · 
  exact fun _ _=>aJ (mv 1 rfl (aQ rfl (Ext.refl _) rfl))
 · 
  exact fun _ _=>aJ (mv 1 rfl (aQ rfl (Ext.refl _) rfl))
 · 
  exact fun _ e10=>dk rfl rfl (dk rfl rfl (aJ (jT rfl rfl fM fF (lo:=0) (hi:=n-(n/2)) rfl rfl (by omega) (by have:=(hd.ext e10).rv.le;omega) (v:= .slice A (n-(n/2)) c) (oT _ _ _) (by decide) (aQ rfl (Ext.refl _) rfl))))
 · 
  exact fun _ _=>aJ (mv 1 rfl (aQ rfl (Ext.refl _) rfl))
 · 
  intro v23 iE
  have hw1:=(Ext.refl w).trans iE
  refine dk rfl rfl (dk rfl rfl (aJ (cl (vs:= [.slice A (n-(n/2)) c,.int .i64 base]) hw1 ((ih (by omega) hbl hbu ((hd.take (k:=n-(n/2)) (by omega)).ext iE) (by omega)).mono (Gv.imp (WR.imp hw1.size))) rfl (by kernel_rfl) fun xr37 v35 r37 e36 hw2=>?_)))
  obtain⟨A38,n38,c38,rfl,j38,o38⟩:=r37
  exact aQ rfl e36 ⟨_,_,_,rfl,j38,o38⟩
 · 
  exact fun _ _=>aJ (mv 1 rfl (aQ rfl (Ext.refl _) rfl))
 · 
  exact fun _ _=>aJ (mv 1 rfl (aQ rfl (Ext.refl _) rfl))
 · 
  intro v43 e44
  have hw1:=(Ext.refl w).trans e44
  refine dk rfl rfl (dk rfl rfl (aJ (cl (vs:= [.int .i64 base,.int .i64 ((n/2:Nat):Int)]) hw1 ((RW (n:=n/2) hbl hbu (by omega)).mono (Gv.imp (WR.imp hw1.size))) rfl (by kernel_rfl) fun xr57 v55 r57 e56 hw2=>?_)))
  obtain⟨A58,n58,c58,rfl,j58,o58⟩:=r57
  exact aQ rfl e56 ⟨_,_,_,rfl,j58,o58⟩
 · 
  exact fun _ _=>aJ (mv 1 rfl (aQ rfl (Ext.refl _) rfl))
 · 
  exact fun _ _=>aJ (mv 1 rfl (aQ rfl (Ext.refl _) rfl))
 · 
  exact fun _ e64=>dk rfl rfl (dk rfl rfl (aJ (jT rfl rfl fM fF (lo:=n-(n/2)) (hi:=n) rfl rfl (by omega) (by have:=(hd.ext e64).rv.le;omega) (v:= .slice (if c=n-(n/2) then A else A.map (·.add ((n-(n/2))*1))) (n-(n-(n/2))) (c-(n-(n/2)))) (uR _ _ _ _) (by decide) (aQ rfl (Ext.refl _) rfl))))
 · 
  exact fun _ _=>aJ (mv 1 rfl (aQ rfl (Ext.refl _) rfl))
 · 
  intro v77 e78
  have hw1:=(Ext.refl w).trans e78
  refine dk rfl rfl (dk rfl rfl (aJ (cl (vs:= [.slice (if c=n-(n/2) then A else A.map (·.add ((n-(n/2))*1))) (n-(n-(n/2))) (c-(n-(n/2))),.int .i64 base]) hw1 ((ih (by omega) hbl hbu ((hd.drop (k:=n-(n/2)) (by omega)).ext e78) (by omega)).mono (Gv.imp (WR.imp hw1.size))) rfl (by kernel_rfl) fun xr91 v89 r91 e90 hw2=>?_)))
  obtain⟨A92,n92,c92,rfl,j92,o92⟩:=r91
  exact aQ rfl e90 ⟨_,_,_,rfl,j92,o92⟩
 · 
  intro v93 e94
  have hw1:=(Ext.refl w).trans e94
  refine i7 rfl rfl fun x95 y96 h97 fN f99=>?_
  obtain⟨A100,n100,c100,rfl,j100,o100⟩:=h97
  have o100:=o100.ext f99
  refine i7 rfl rfl fun x101 y102 h103 e104 f105=>?_
  obtain⟨A106,n106,c106,rfl,j106,o106⟩:=h103
  have o106:=o106.ext f105
  refine i7 rfl rfl fun x107 y108 h109 e110 f111=>?_
  obtain⟨A112,n112,c112,rfl,j112,o112⟩:=h109
  have o112:=o112.ext f111
  refine aJ (cl (vs:= [.slice A100 n100 c100,.slice A106 n106 c106,.slice A112 n112 c112]) hw1 (S6 hw1.size o100.wi o106.wi o112.wi (by omega) (by omega)) rfl (by kernel_rfl) fun xr115 v113 r115 e114 hw2=>?_)
  obtain⟨A116,n116,c116,rfl,j116,o116⟩:=r115
  exact aQ rfl e114 ⟨_,_,_,rfl,j116,o116⟩
 · 
  intro v117 e118
  have hw1:=(Ext.refl w).trans e118
  refine dk rfl rfl (dk rfl rfl (dk rfl rfl (dk rfl rfl (i7 rfl rfl fun x139 y140 h141 e142 f143=>?_))))
  obtain⟨A144,n144,c144,rfl,j144,o144⟩:=h141
  have o144:=o144.ext f143
  refine dk rfl rfl (dk rfl rfl (i7 rfl rfl fun x155 y156 h157 e158 f159=>?_))
  obtain⟨A160,n160,c160,rfl,j160,o160⟩:=h157
  have o160:=o160.ext f159
  refine dk rfl rfl (dk rfl rfl (dk rfl rfl (dk rfl rfl (i7 rfl rfl fun x181 y182 h183 e184 f185=>?_))))
  obtain⟨A186,n186,c186,rfl,j186,o186⟩:=h183
  have o186:=o186.ext f185
  refine i7 rfl rfl fun x187 y188 h189 e190 f191=>?_
  obtain⟨A192,n192,c192,rfl,j192,o192⟩:=h189
  have o192:=o192.ext f191
  refine aJ (mv 1 rfl (aU (gQ (aD (aM (bL (aL [.slice A192 n192 c192] rfl ⟨rfl,trivial⟩ ?_)))))))
  have hv:(cG base (ds.take (n-(n/2))))*(base^(n/2))+(cG base (ds.drop (n-(n/2))))=cG base ds:=PN hd.len (by omega)
  exact⟨_,rfl,⟨_,_,_,rfl,hv▸j192,hv▸o192⟩,hw1⟩
set_option maxHeartbeats 4000000 in
theorem GU {w:a6}(hbl:2≤base)(hbu:base≤36)(hd:Rb base w A n c ds)(hlow:n≤200):
    aO aF 245 #[.slice A n c,.int .i64 base] w (Gv w (WR w.heap.size (cG base ds))):=by
 refine bK Tryz.func245 rfl (n:=81) rfl (bq rfl) (args:= [.slice A n c,.int .i64 base]) (bE [(0,.slice A n c),(1,.int .i64 base)] ⟨rfl,rfl,trivial⟩ (sr (mv 1 rfl (a0 (aA (sr (mv 1 rfl (pu (v:= .int .i64 n) rfl (aB rfl rfl rfl false (d6 (a:=n) (b:=200) rfl rfl) (a0 (aI rfl (aN (aD ?_)))))))))))))
 refine sr (mv 1 rfl (dD rfl rfl (vs:= [.int .i64 base]) (by kernel_rfl) (by decide) (GT hbl hbu) ?_))
 rintro _ v1 ⟨k4,p5,xr3,rfl,r3,e2⟩
 have hk1:=p5.pos hbu
 have hk64:=p5.le64
 refine dE ?_
 have hw1:=(Ext.refl w).trans e2
 obtain⟨_,_,rfl,rfl,rfl⟩:=r3
 refine mv 1 rfl (pu (v:= .int .i64 k4) rfl (pu (v:= .int .u64 ((base^k4:Nat):Int)) rfl (mv 2 rfl (a0 (sr (mv 1 rfl (a0 (aA (bG ?_)))))))))
 refine d4 (T:=a6×List Nat×List Nat×Option aC×Nat×Nat×Option aC×Nat×Nat)
  (fun⟨wr,pre,rest,DA,dn,dc,QA,qn,qc⟩=> [(0,.slice DA dn dc),(1,.int .i64 base),(7,.int .i64 k4),(9,.slice QA qn qc)])
  (fun⟨wr,pre,rest,DA,dn,dc,QA,qn,qc⟩=>wr)
  (fun⟨wr,pre,rest,DA,dn,dc,QA,qn,qc⟩=>(Ext w wr)∧(pre++rest=ds)∧(qn=(wd (cG base pre)).length)∧(Own wr w.heap.size 65 1 QA qn qc ((wd (cG base pre)).map aW))∧(Rb base wr DA dn dc rest))
  (fun⟨wr,pre,rest,DA,dn,dc,QA,qn,qc⟩=>dn)
  (⟨v1,[],ds,A,n,c,none,0,0⟩:a6×List Nat×List Nat×Option aC×Nat×Nat×Option aC×Nat×Nat) ⟨hw1,rfl,rfl,(Own.nil _ _ _ _),(hd.ext e2)⟩ rfl ⟨rfl,rfl,rfl,rfl,trivial⟩ ?_
 rintro⟨wr,pre,rest,DA,dn,dc,QA,qn,qc⟩ ⟨hw1,hsp,han,hao,rl0⟩
 refine cC [(0,.slice DA dn dc),(1,.int .i64 base),(7,.int .i64 k4),(9,.slice QA qn qc)] wr rfl ⟨rfl,rfl,rfl,rfl,trivial⟩ (aA (aA ?_))
 by_cases hdn:dn>0
 · 
  refine a7 (mv 1 rfl (pu (v:= .int .i64 dn) rfl (aB rfl rfl rfl true (dJ (a:=dn) (b:=0) rfl rfl) (a0 (aP rfl (aN (aD (bG (sr (mv 2 rfl (pu (v:= .int .i64 dn) rfl (F9 rfl rfl rfl (((min k4 dn:Nat):Int)) (by omega) (by decide) (mv 1 rfl ?_)))))))))))))
  refine a0 (sr (mv 2 rfl (a0 (aA (sr (mv 2 rfl (jT rfl rfl fM fF (lo:=0) (hi:=min k4 dn) rfl rfl (by omega) (by have:=rl0.rv.le;omega) (v:= .slice DA (min k4 dn) dc) (oT _ _ _) (by decide) (pu (v:= .int .i64 (((min k4 dn):Nat):Int)) rfl (mv 1 rfl (a0 (bG ?_)))))))))))
  refine d4 (T:=a6×Nat×Nat×Nat)
   (fun⟨wq,i,v,p⟩=> [(0,.slice DA dn dc),(1,.int .i64 base),(7,.int .i64 k4),(10,.int .i64 ((min k4 dn:Nat):Int)),(9,.slice QA qn qc),(11,.int .u64 v),(12,.int .u64 p),(53,.slice DA (min k4 dn) dc),(54,.int .i64 (((min k4 dn):Nat):Int)),(55,.int .i64 i)])
   (fun⟨wq,i,v,p⟩=>wq)
   (fun⟨wq,i,v,p⟩=>(Ext w wq)∧(i≤min k4 dn)∧(v=cG base (rest.take i))∧(p=base^i)∧(Own wq w.heap.size 65 1 QA qn qc ((wd (cG base pre)).map aW))∧(Rb base wq DA dn dc rest)∧(Rb base wq DA (min k4 dn) dc (rest.take (min k4 dn))))
   (fun⟨wq,i,v,p⟩=>min k4 dn-i)
   (⟨wr,0,0,1⟩:a6×Nat×Nat×Nat) ⟨hw1,(bW _),rfl,rfl,hao,rl0,(rl0.take (k:=min k4 dn) (by omega))⟩ rfl ⟨rfl,rfl,rfl,rfl,rfl,rfl,rfl,rfl,rfl,rfl,trivial⟩ ?_
  rintro⟨wq,i,v,p⟩ ⟨hw1,hi,hv,hpp,hao,rl0,rl53⟩
  refine cC [(0,.slice DA dn dc),(1,.int .i64 base),(7,.int .i64 k4),(10,.int .i64 ((min k4 dn:Nat):Int)),(9,.slice QA qn qc),(11,.int .u64 v),(12,.int .u64 p),(53,.slice DA (min k4 dn) dc),(54,.int .i64 (((min k4 dn):Nat):Int)),(55,.int .i64 i)] wq rfl ⟨rfl,rfl,rfl,rfl,rfl,rfl,rfl,rfl,rfl,rfl,trivial⟩ (aA ?_)
  by_cases htst:i<min k4 dn
  · 
   have hx:=rl53.dig (i:=i) htst
   have hvl:v<base^i:=by rw [hv];have:=BC (b:=base) (by omega) (rest.take i) (CO rl0.wf i);rwa [bJ,fT (by rw [rl0.len];omega)] at this
   have hso:=QU p5 (by omega) (show i+1≤k4 by omega) hvl hx
   rw [←hpp] at hso
   obtain⟨hso1,hso2⟩:=hso
   refine a7 (aB rfl rfl rfl true (dB (a:=i) (b:=min k4 dn) rfl rfl) (a0 (aA (aP rfl (aN (aD (aA (bG (sr ?_)))))))))
   obtain⟨p7,hp7,hc7,hv7⟩:=(rl53).at (by decide) (i:=i) (by omega)
   refine bT rfl rfl rfl fM fF i rfl p7 hp7 (aS rfl rfl (cZ qX hc7) (mv 1 rfl (a0 (sr (mv 2 rfl (bD rfl rfl (v:= .int .u64 (IntKind.u64.wrap ((base:Nat):Int))) (v':= .int .u64 base) (eD (by first | omega | exact hle64)) (aE rfl rfl rfl ((v*base:Nat):Int) (lX (a:=v) (b:=base) rfl rfl) (mv 1 rfl (bD rfl rfl (v:= .int .u64 (IntKind.u64.wrap (((rest.take (min k4 dn)).getD i 0:Nat):Int))) (v':= .int .u64 (((rest.take (min k4 dn)).getD i 0:Nat):Int)) (eD (by first | omega | exact hle64)) (aE rfl rfl rfl (((v*base)+((rest.take (min k4 dn)).getD i 0):Nat):Int) (eW (a:=v*base) (b:=(rest.take (min k4 dn)).getD i 0) rfl rfl) (mv 1 rfl (a0 (a7 ?_)))))))))))))
   refine mv 2 rfl (bD rfl rfl (v:= .int .u64 (IntKind.u64.wrap ((base:Nat):Int))) (v':= .int .u64 base) (eD (by first | omega | exact hle64)) (aE rfl rfl rfl ((p*base:Nat):Int) (lX (a:=p) (b:=base) rfl rfl) (mv 1 rfl (aU (cA (aD (a7 (aE rfl rfl rfl ((i+1:Nat):Int) (bF (a:=i) (b:=1) rfl rfl) (mv 1 rfl (aU (cH (⟨wq,i+1,v*base+(rest.take (min k4 dn)).getD i 0,p*base⟩:a6×Nat×Nat×Nat) ⟨hw1,(by omega),(by rw [G0 htst (by rw [rl0.len];omega),sP,←hv]),(by rw [hpp,cB]),hao,rl0,rl53⟩ (show min k4 dn-(i+1)<min k4 dn-i by omega) rfl ⟨rfl,rfl,rfl,rfl,rfl,rfl,rfl,rfl,rfl,rfl,trivial⟩)))))))))))
  · 
   have him:i=min k4 dn:=by omega
   have hpb:p≤18446744073709551615:=by rw [hpp];exact aG (dU (by omega) (by omega)) p5.le
   have hvb:v≤18446744073709551615:=by have:=BC (b:=base) (by omega) (rest.take i) (CO rl0.wf i);rw [bJ,fT (by rw [rl0.len];omega),←hpp,←hv] at this;omega
   have hlen:(wd (cG base pre)).length≤200:=by have h1:=vQ hbu (ds:=pre) (fun x hx=>hd.wf x (by rw [←hsp];exact List.mem_append_left _ hx));have h2:=hd.len;rw [←hsp,cL] at h2;omega
   have hL1:(wd (cG base pre*p)).length≤201:=by have:=vP (cG base pre) p;have:=XL hpb;omega
   have hm:cG base (pre++rest.take (min k4 dn))=cG base pre*p+v:=by rw [←him,PP (by rw [rl0.len];omega),hpp,hv]
   refine a7 (aB rfl rfl rfl false (cX (a:=i) (b:=min k4 dn) rfl rfl) (a0 (aA (aI rfl (cR (cN (cP (cQ (aD (sr (mv 2 rfl (cl (vs:= [.slice QA qn qc,.int .u64 p]) hw1 (S5 hw1.size hao.wi (by omega) hpb) rfl (by kernel_rfl) fun xr10 v8 r10 e9 hw2=>?_))))))))))))
   obtain⟨A11,n11,c11,rfl,j11,o11⟩:=r10
   refine mv 1 rfl (dQ rfl rfl (k:=1) (e:=65) [.int .u64 v] (fun _=>by kernel_rfl) fun g12 v13 nb14=>?_)
   have o15:=O1.mk_ (x:=v) (b:=w.heap.size) nb14 hw2.size
   have e16:=nb14.ext
   have hw3:=hw2.trans e16
   refine cl (vs:= [.slice A11 n11 c11,.slice (some ⟨g12,0,none⟩) 1 1]) hw3 (S9 hw3.size (o11.ext e16).wi (by omega) (gL o15 hvb) (by decide)) rfl (by kernel_rfl) fun xr21 v19 r21 e20 hw4=>?_
   obtain⟨A22,n22,c22,rfl,j22,o22⟩:=r21
   refine mv 1 rfl (a0 (a7 (mv 2 rfl (jT rfl rfl fM fF (lo:=min k4 dn) (hi:=dn) rfl rfl (by omega) (by have:=(rl0.ext (e9.trans (e16.trans e20))).rv.le;omega) (v:= .slice (if dc=min k4 dn then DA else DA.map (·.add ((min k4 dn)*1))) (dn-(min k4 dn)) (dc-(min k4 dn))) (uR _ _ _ _) (by decide) (mv 1 rfl (aU (cA (cH (⟨v19,pre++rest.take (min k4 dn),rest.drop (min k4 dn),if dc=min k4 dn then DA else DA.map (·.add ((min k4 dn)*1)),dn-(min k4 dn),dc-(min k4 dn),A22,n22,c22⟩:a6×List Nat×List Nat×Option aC×Nat×Nat×Option aC×Nat×Nat) ⟨hw4,(by rw [List.append_assoc,pS];exact hsp),(by rw [hm];exact j22),(by rw [hm];exact o22),((rl0.ext (e9.trans (e16.trans e20))).drop (k:=min k4 dn) (by omega))⟩ (show dn-min k4 dn<dn by omega) rfl ⟨rfl,rfl,rfl,rfl,trivial⟩))))))))
 · 
  refine a7 (mv 1 rfl (pu (v:= .int .i64 dn) rfl (aB rfl rfl rfl false (d6 (a:=dn) (b:=0) rfl rfl) (a0 (aI rfl (cR (cN (cP (cQ (aD (sr (mv 2 rfl (aU ?_)))))))))))))
  refine aD (aM (aL [.slice QA qn qc] rfl ⟨rfl,trivial⟩ ?_))
  have hr0:rest= []:=pU.1 (by have:=rl0.len;omega)
  rw [hr0,List.append_nil] at hsp
  exact⟨_,rfl,⟨_,_,_,rfl,hsp▸han,hsp▸hao⟩,hw1⟩
theorem GV:∀N,NT N
 | 0=>fun hn hbl hbu hd _=>GU hbl hbu hd (by omega)
 | N+1=>by
  intro hn hbl hbu hd hm
  rename_i w A n c base ds
  by_cases h:200<n
  ·exact RX (GV N) hn hbl hbu hd hm h
  ·exact GU hbl hbu hd (by omega)
theorem RY {w:a6}(hb:b≤w.heap.size)(hbl:2≤base)(hbu:base≤36)(hd:Rb base w A n c ds)(hn:n≤17179869184):aO aF 245 #[.slice A n c,.int .i64 base] w (Gv w (WR b (cG base ds))):=
 (GV n (b8 _) hbl hbu hd hn).mono (Gv.imp (WR.imp hb))
theorem CW (h:i<l.length):l.getD i 0∈l:=by
 rw [bC,cJ h];exact mI h
theorem DC (h:∀c,c∈l→dv c<b):∀x,x∈l.map dv→x<b:=by
 intro x hx
 obtain⟨c,hc,rfl⟩:=List.mem_map.1 hx
 exact h c hc
set_option maxHeartbeats 4000000 in
theorem S4 {w:a6}(hbl:2≤base)(hbu:base≤36)(hbs:∀b,b∈bs→b<256)(hlen:bs.length≤17179869184):
    aO aF 206 #[.string (a8 bs),.int .i64 base] w (fun e w'=>(mG base bs→Gv w (T2 (WR w.heap.size (cG base (bs.map dv))) (Is (.int .i64 0))) e w')∧(¬mG base bs→Gv w (T2 (Is (.slice none 0 0)) (Is (.int .i64 7))) e w')):=by
 refine bK Tryz.func206 rfl (n:=41) rfl (bq rfl) (args:= [.string (a8 bs),.int .i64 base]) (bE [(0,.string (a8 bs)),(1,.int .i64 base)] ⟨rfl,rfl,trivial⟩ (sr (mv 2 rfl (a0 (aA (sr (mv 1 rfl (aB rfl rfl rfl false (cX (a:=base) (b:=2) rfl rfl) (mv 2 rfl (aB rfl rfl rfl false (d6 (a:=base) (b:=36) rfl rfl) (pu (v:= .bool false) rfl (a0 (aI rfl ?_)))))))))))))
 refine aN (aD (sr (mv 1 rfl (bD rfl rfl (v:= .int .i64 (((a8 bs).size:Nat):Int)) (v':= .int .i64 ((bs.length:Nat):Int)) (by rw [cM]) (P3 (k:=bs.length) rfl rfl rfl fM qR rfl (by omega) (by decide) fun g1 v2 ho3 e4=>?_)))))
 have ho3:=ho3.mono (Ext.refl w).size
 have hw1:=(Ext.refl w).trans e4
 refine mv 1 rfl (a0 (aA (sr (mv 1 rfl (F4 (bs:=bs) rfl rfl Tryz.underlying9 (by decide) fun g5 v6 hg7 it8 e9=>?_)))))
 have ge10:w.heap.size≤g5:=by rw [←hg7];exact hw1.size
 clear hg7
 have hw2:=hw1.trans e9
 refine a0 (bG ?_)
 refine d4 (T:=a6×Nat×Option aC×Nat)
  (fun⟨wr,p,OA,oc⟩=> [(0,.string (a8 bs)),(1,.int .i64 base),(6,.slice OA p oc),(20,.pointer (some ⟨g5,0,none⟩))])
  (fun⟨wr,p,OA,oc⟩=>wr)
  (fun⟨wr,p,OA,oc⟩=>(Ext w wr)∧(It wr g5 bs p)∧(Own wr w.heap.size 5 1 OA p oc (((bs.take p).map dv).map B8))∧(p≤bs.length)∧(∀c,c∈bs.take p→dv c<base))
  (fun⟨wr,p,OA,oc⟩=>bs.length-p)
  (⟨v6,0,(some ⟨g1,0,none⟩),bs.length⟩:a6×Nat×Option aC×Nat) ⟨hw2,it8,(ho3.ext e9),(bW _),(fun c hc=>absurd hc (by simp))⟩ rfl ⟨rfl,rfl,rfl,rfl,trivial⟩ ?_
 rintro⟨wr,p,OA,oc⟩ ⟨hw1,hI,hO,hp,hg⟩
 refine cC [(0,.string (a8 bs)),(1,.int .i64 base),(6,.slice OA p oc),(20,.pointer (some ⟨g5,0,none⟩))] wr rfl ⟨rfl,rfl,rfl,rfl,trivial⟩ (aA ?_)
 by_cases hnx:p<bs.length
 · 
  refine a7 ?_
  have it11:=hI
  refine F7 rfl rfl hbs it11 (by omega) (by decide) fun v12 r13 z14 hr15 it16 u17=>?_
  have hw2:=u17.ext hw1 ge10
  refine pu (v:= .bool true) rfl (a0 (aA (aP rfl (aN (aD (bG (sr (pu (v:= .int .i32 ((r13:Nat):Int)) rfl (mv 1 rfl (a0 (sr (mv 1 rfl (cl (vs:= [.int .i32 ((r13:Nat):Int)]) hw2 (RV hr15.le) rfl (by kernel_rfl) fun xr20 v18 r20 e19 hw3=>?_)))))))))))))
  obtain rfl:=r20
  refine mv 1 rfl (a0 (aA (aA ?_)))
  by_cases hge:dv r13≥base
  · 
   have hbad:¬mG base bs:=fun h=>by have:=h.2 (bs.getD p 0) (CW hnx);rw [←hr15.dv] at this;omega
   refine a7 (mv 2 rfl (aB rfl rfl rfl true (eI (a:=dv r13) (b:=base) rfl rfl) (a0 (aP rfl (sr (mv 2 rfl (a0 (aM (bL (eC (mY (eC (bL ?_)))))))))))))
   refine aL [S0,.int .i64 7] rfl ⟨rfl,rfl,trivial⟩ ?_
   exact⟨fun h=>absurd h hbad,fun _=>⟨_,rfl,⟨_,_,rfl,rfl,rfl⟩,hw3⟩⟩
  · 
   have h1z:=hr15.one (by omega)
   have hdv36:=a0j r13
   refine a7 (mv 2 rfl (aB rfl rfl rfl false (iF (a:=dv r13) (b:=base) rfl rfl) (a0 (aI rfl (aN (aD (a7 (mv 2 rfl (bD rfl rfl (v:= .int .u8 (IntKind.u8.wrap ((dv r13:Nat):Int))) (v':= .int .u8 ((dv r13:Nat):Int)) (a0K (by omega)) (dQ rfl rfl (k:=1) (e:=5) [.int .u8 ((dv r13:Nat):Int)] (fun _=>by kernel_rfl) fun g21 v22 nb=>?_))))))))))
   have hb23:=nb.bk
   have iE:=nb.ext
   clear nb
   have hw4:=hw3.trans iE
   have ow25:=((hO.updI it11 u17).ext (e19.trans iE))
   refine nP rfl rfl rfl fM qR rfl ow25 hw4.size [.int .u8 ((dv r13:Nat):Int)] rfl (oW _ hb23) rfl fun A26 c27 v28 ho29 uo30 kp31=>?_
   have hw5:=uo30.ext hw4 (fun p hp=>(ow25.block p hp).1)
   have ho32:Own v28 w.heap.size 5 1 A26 (p+1) c27 ((((bs.take p).map dv)++ [dv r13]).map B8):=by have h:=ho29;simp only [List.map_append,List.map_cons,List.map_nil] at h⊢;exact h
   refine mv 1 rfl (aU (cA ?_))
   have htk:bs.take (p+1)=bs.take p++ [bs.getD p 0]:=by have:=G0 (n:=bs.length) hnx (b8 _);rwa [List.take_length] at this
   have hdr:=hr15.dv
   refine cH (⟨v28,p+1,A26,c27⟩:a6×Nat×Option aC×Nat) ⟨hw5,(by have h:=((it16.ext (e19.trans iE)).updO uo30 (KN ow25 (it16.ext (e19.trans iE))));rwa [h1z.1] at h),(by rw [htk,List.map_append];rw [hdr] at ho32;exact ho32),(by omega),(by rw [htk];intro c hc;rcases List.mem_append.1 hc with h | h;(· exact hg c h);(· rw [List.mem_singleton.1 h,←hdr];omega))⟩ (show bs.length-(p+1)<bs.length-p by omega) rfl ⟨rfl,rfl,rfl,rfl,trivial⟩
 · 
  have hpl:p=bs.length:=by omega
  refine a7 ?_
  have it33:=hI
  refine F6 rfl rfl it33 (by omega) (by decide) (pu (v:= .bool false) rfl (a0 (aA (aI rfl (cR (cN (cP (cQ (aD (aA (aA ?_)))))))))))
  by_cases hz:p=0
  · 
   have hbad:¬mG base bs:=fun h=>h.1 (pU.1 (by omega))
   refine a7 (mv 1 rfl (pu (v:= .int .i64 p) rfl (aB rfl rfl rfl true (dA (a:=p) (b:=0) rfl rfl) (a0 (aP rfl (sr (mv 2 rfl (a0 (aM (bL (aL [S0,.int .i64 7] rfl ⟨rfl,rfl,trivial⟩ ?_)))))))))))
   exact⟨fun h=>absurd h hbad,fun _=>⟨_,rfl,⟨_,_,rfl,rfl,rfl⟩,hw1⟩⟩
  · 
   have hgood:mG base bs:=⟨fun e=>by rw [e] at hpl;simp at hpl;omega,by have:=hg;rwa [hpl,List.take_length] at this⟩
   have hLn:(wd (cG base ((bs.take p).map dv))).length≤p:=by have:=vQ (b:=base) hbu (ds:=(bs.take p).map dv) (DC hg);rw [List.length_map,bJ] at this;omega
   refine a7 (mv 1 rfl (pu (v:= .int .i64 p) rfl (aB rfl rfl rfl false (dC (a:=p) (b:=0) rfl rfl) (a0 (aI rfl (aN (aD (sr (mv 2 rfl (cl (vs:= [.slice OA p oc,.int .i64 base]) hw1 (RY hw1.size hbl hbu (hO.rb (DC hg)) (by omega)) rfl (by kernel_rfl) fun xr36 v34 r36 e35 hw2=>?_))))))))))
   obtain⟨A37,n37,c37,rfl,j37,o37⟩:=r36
   refine cl (vs:= [.slice A37 n37 c37]) hw2 (S7 hw2.size o37.wi (by omega)) rfl (by kernel_rfl) fun xr40 v38 r40 e39 hw3=>?_
   obtain⟨A41,n41,c41,rfl,j41,o41⟩:=r40
   refine mv 2 rfl (a0 (aM (aL [.slice A41 n41 c41,I0] rfl ⟨rfl,rfl,trivial⟩ ?_)))
   have hfin:cG base ((bs.take p).map dv)=cG base (bs.map dv):=by rw [hpl,List.take_length]
   exact⟨fun _=>⟨_,rfl,⟨_,_,rfl,⟨_,_,_,rfl,hfin▸j41,hfin▸o41⟩,rfl⟩,hw3⟩,fun h=>absurd hgood h⟩
theorem S3 {w:a6}(hb:b≤w.heap.size)(hbl:2≤base)(hbu:base≤36)(hbs:∀b,b∈bs→b<256)(hlen:bs.length≤17179869184)(hg:mG base bs):
  aO aF 206 #[.string (a8 bs),.int .i64 base] w (Gv w (T2 (WR b (cG base (bs.map dv))) (Is (.int .i64 0)))):=(S4 hbl hbu hbs hlen).mono fun _e _w' h=>Gv.imp (T2.imp (WR.imp hb) Is.imp) _ _ (h.1 hg)
set_option maxHeartbeats 4000000 in
theorem S2 {w:a6}(hS:Signs w)(hx:Wi w A an ac m)(hal:an≤4194304)(hbl:2≤base)(hbu:base≤36):
    aO aF 185 #[.slice A an ac,.int .i64 base] w (Gv w (T2 (Is (.string (a8 (bB base m)))) (Is (.int .i64 0)))):=by
 have hml:(wd m).length≤4194304:=aG hx.len hal
 have hlen0:0+max 0 (db base m).length≤137438953472:=by have:=tJ hbl hml;omega
 refine bK Tryz.func185 rfl (n:=73) rfl (bq rfl) (args:= [.slice A an ac,.int .i64 base]) (bE [(0,.slice A an ac),(1,.int .i64 base)] ⟨rfl,rfl,trivial⟩ (sr (mv 2 rfl (a0 (aA (sr (mv 1 rfl (aB rfl rfl rfl false (cX (a:=base) (b:=2) rfl rfl) (mv 2 rfl (aB rfl rfl rfl false (d6 (a:=base) (b:=36) rfl rfl) (pu (v:= .bool false) rfl (a0 (aI rfl ?_)))))))))))))
 refine aN (aD (sr (mv 1 rfl (cl (vs:= [.slice A an ac]) (Ext.refl w) (LC (hx.ext (Ext.refl w)) (by omega)) rfl (by kernel_rfl) fun xr3 v1 r3 e2 hw1=>?_))))
 obtain⟨A4,n4,c4,rfl,j4,o4⟩:=r3
 refine mv 1 rfl (a0 (aA (aA ?_)))
 by_cases hz0:n4=0
 · 
  have hm0:m=0:=jN.1 (by omega)
  refine a7 (mv 1 rfl (pu (v:= .int .i64 n4) rfl (aB rfl rfl rfl true (dA (a:=n4) (b:=0) rfl rfl) (a0 (aP rfl (sr (mv 2 rfl (a0 (aM (bL (aL [.string (a8 ([48])),I0] rfl ⟨rfl,rfl,trivial⟩ ?_)))))))))))
  have hstr:([48]:List Nat)=bB base m:=by subst hm0;rfl
  exact⟨_,rfl,⟨_,_,rfl,(show Value.string _=Value.string _ from congrArg (fun l=>Value.string (a8 l)) hstr),rfl⟩,hw1⟩
 · 
  have hm0:m≠0:=fun e=>hz0 (by rw [j4,e];rfl)
  refine a7 (mv 1 rfl (pu (v:= .int .i64 n4) rfl (aB rfl rfl rfl false (dC (a:=n4) (b:=0) rfl rfl) (a0 (aI rfl (aN (aD (sr (mv 1 rfl (dD rfl rfl (vs:= [.int .i64 base]) (by kernel_rfl) (by decide) (GT hbl hbu) ?_))))))))))
  rintro _ v5 ⟨k8,p9,xr7,rfl,r7,e6⟩
  refine dE ?_
  have hw2:=hw1.trans e6
  obtain⟨_,_,rfl,rfl,rfl⟩:=r7
  refine mv 1 rfl (pu (v:= .int .i64 k8) rfl (pu (v:= .int .u64 ((base^k8:Nat):Int)) rfl (mv 2 rfl (a0 (sr (mv 3 rfl (pu (v:= .agg #[.int .i64 base,.int .i64 k8,.int .u64 ((base^k8:Nat):Int),S0,S0]) rfl (B9 rfl rfl (vs:= [.int .i64 base,.int .i64 k8,.int .u64 ((base^k8:Nat):Int),S0,S0]) rfl (by decide) fun g11 v12 nb=>?_))))))))
  have hgl:=Nat.le_of_eq nb.at_
  have hle0:w.heap.size≤v5.heap.size:=hw2.size
  have hb14:=nb.bk
  have ge15:w.heap.size≤g11:=by rw [←nb.at_];exact hw2.size
  have e13:=nb.ext
  clear nb
  have hw3:=hw2.trans e13
  refine mv 1 rfl (a0 (aA (aA ?_)))
  by_cases h12:n4>12
  · 
   refine a7 (mv 1 rfl (pu (v:= .int .i64 n4) rfl (aB rfl rfl rfl true (dJ (a:=n4) (b:=12) rfl rfl) (a0 (aP rfl (aA ?_))))))
   have hk1:1≤k8:=by refine Nat.pos_of_ne_zero (fun e=>?_);have:=p9.gt;rw [e,f9,Nat.pow_one] at this;omega
   have hu2:2≤base^k8:=aG hbl (aG (Nat.le_of_eq (Nat.pow_one base).symm) (dU (by omega) hk1))
   have hum:=p9.le
   refine a7 (mv 1 rfl (dQ rfl rfl (k:=1) (e:=65) [.int .u64 ((base^k8:Nat):Int)] (fun _=>by kernel_rfl) fun g16 v17 nb=>?_))
   have hb18:=nb.bk
   have e19:=nb.ext
   clear nb
   have hw4:=hw3.trans e19
   refine mv 1 rfl (a0 (bG ?_))
   refine d4 (T:=a6×Nat×Option aC×Nat×Nat×Option aC×Nat)
    (fun⟨wr,j,QA,qn,qc,PA,pc⟩=> [(0,.slice A4 n4 c4),(1,.int .i64 base),(6,.int .i64 k8),(7,.int .u64 ((base^k8:Nat):Int)),(8,.pointer (some ⟨g11,0,none⟩)),(9,.slice QA qn qc)])
    (fun⟨wr,j,QA,qn,qc,PA,pc⟩=>wr)
    (fun⟨wr,j,QA,qn,qc,PA,pc⟩=>(Ext w wr)∧(j=0∨(base^k8)^2^(j-1)≤m)∧(qn=(wd ((base^k8)^2^j)).length)∧(qn≤8388608)∧(Own wr 0 65 1 QA qn qc ((wd ((base^k8)^2^j)).map aW))∧(Bk wr g11 193 [.int .i64 base,.int .i64 k8,.int .u64 ((base^k8:Nat):Int),.slice PA j pc,S0])∧(Pw wr v5.heap.size PA j pc (base^k8))∧(v5.heap.size≤wr.heap.size)∧(Own wr 0 65 1 A4 n4 c4 ((wd m).map aW)))
    (fun⟨wr,j,QA,qn,qc,PA,pc⟩=>64-j)
    (⟨v17,0,(some ⟨g16,0,none⟩),1,1,none,0⟩:a6×Nat×Option aC×Nat×Nat×Option aC×Nat) ⟨hw4,(cE rfl),(by rw [Nat.pow_zero,Nat.pow_one];exact hZ hum (by omega)),(by decide),(by rw [Nat.pow_zero,Nat.pow_one];exact (a1b hb18 hum (by omega))),(hb14.ext e19),(Pw.nil _ _ _),((aG e13.size e19.size)),((o4.ext (e6.trans (e13.trans e19)))).mono (bW _)⟩ rfl ⟨rfl,rfl,rfl,rfl,rfl,rfl,trivial⟩ ?_
   rintro⟨wr,j,QA,qn,qc,PA,pc⟩ ⟨hw1,hjm,hqn,hq8,hq,b_g,hPw,hpb0,hoa⟩
   refine cC [(0,.slice A4 n4 c4),(1,.int .i64 base),(6,.int .i64 k8),(7,.int .u64 ((base^k8:Nat):Int)),(8,.pointer (some ⟨g11,0,none⟩)),(9,.slice QA qn qc)] wr rfl ⟨rfl,rfl,rfl,rfl,rfl,rfl,trivial⟩ (aA (aA ?_))
   have hj30:j≤29:=by rcases hjm with h | h;(· omega);(· have:=KO (J3 hu2 h hml) (by omega);omega)
   by_cases hle:(base^k8)^2^j≤m
   · 
    have hsq:(wd ((base^k8)^2^j*(base^k8)^2^j)).length≤8388608:=XK (aG (gZ hle) hml)
    refine a7 (mv 2 rfl (cl (vs:= [.slice QA qn qc,.slice A4 n4 c4]) hw1 (xT hq.wi hoa.wi) rfl (by kernel_rfl) fun xr22 v20 r22 e21 hw2=>?_))
    obtain rfl:=r22
    refine aB rfl rfl rfl true (a0Z hle) (a0 (aP rfl (aN (aD (bG (sr (mv 2 rfl (pf g11 0 rfl (pf g11 3 rfl (aS rfl rfl (aY (fun _=>by kernel_rfl) (b_g.ext e21) rfl) (mv 1 rfl (dQ rfl rfl (k:=1) (e:=22) [.slice QA qn qc] (fun _=>by kernel_rfl) fun g23 v24 nb=>?_))))))))))))
    have hb25:=nb.bk
    have e26:=nb.ext
    clear nb
    have hw3:=hw2.trans e26
    refine P7 rfl rfl rfl (hPw.ext (e21.trans e26)) (aG hpb0 ((aG e21.size e26.size))) hb25 hqn hq8 (hq.ext (e21.trans e26)) (by omega) (by decide) fun A27 c28 v29 pw30 uo31 ⟨us32,ow33⟩=>?_
    have hw4:=uo31.ext hw3 (fun p hp=>aG hle0 (ow33.block p hp).1)
    refine pf g11 0 rfl (pf g11 3 rfl ?_)
    have hb35:=((b_g.ext (e21.trans e26)).updO uo31 (vF ow33 (b_g.ext (e21.trans e26)) (by decide)))
    refine eB rfl rfl rfl (fun _=>by kernel_rfl) rfl hb35 (bq rfl) rfl [.int .i64 base,.int .i64 k8,.int .u64 ((base^k8:Nat):Int),.slice A27 (j+1) c28,S0] rfl fun v34 hb36 u37 hs38=>?_
    have hw5:=u37.ext hw4 ge15
    refine a0 (aA (aA ?_))
    by_cases hbig:2*qn>n4+2
    · 
     refine a7 (mv 1 rfl (pu (v:= .int .i64 qn) rfl (aE rfl rfl rfl ((2*qn:Nat):Int) (nB (a:=2) (b:=qn) rfl rfl) (mv 1 rfl (pu (v:= .int .i64 n4) rfl (aE rfl rfl rfl ((n4+2:Nat):Int) (bF (a:=n4) (b:=2) rfl rfl) (aB rfl rfl rfl true (dJ (a:=2*qn) (b:=n4+2) rfl rfl) (a0 (aP rfl (cR (cN (D3 (cP ?_)))))))))))))
     refine cQ (aD (sr (mv 3 rfl (pf g11 0 rfl (pf g11 3 rfl (aS rfl rfl (aY (fun _=>by kernel_rfl) hb36 rfl) (pu (v:= .int .i64 (((j+1):Nat):Int)) rfl (aE rfl rfl rfl (((j+1:Nat):Int)-1) (dM rfl) (dD rfl rfl (vs:= [.pointer (some ⟨g11,0,none⟩),.slice A4 n4 c4,.int .i64 (((j+1:Nat):Int)-1),I0]) (by kernel_rfl) (by decide) (xR (j+1) (lb:=v5.heap.size) (bs:= []) rfl (hS.ext hw5) (dF (tZ w _ (hS 0 (by decide))) hle0) hbl hbu hb36 (Own.nil _ _ _ _) hgl (aG hpb0 ((aG (aG (aG e21.size e26.size) uo31.size) u37.by_.size))) (((hoa.ext (e21.trans e26)).updOT ow33 (by decide) uo31).updT hb35 (by decide) u37).wi (by omega) rfl p9 (by decide) hlen0 ((pw30.updT hb35 u37 (by decide) (by decide)).mono (bW _)) (b8 _) (by omega)) ?_)))))))))
     rintro _ v39 ⟨rfl,A40,n41,c42,hb43,ho44,uw45,kp46⟩
     refine dE ?_
     have hw6:=uw45.ext hw5 hle0
     refine a0 (sr (mv 1 rfl (pf g11 0 rfl (pf g11 4 rfl (aS rfl rfl (aY (fun _=>by kernel_rfl) hb43 rfl) (uK rfl rfl ho44 (mv 2 rfl (a0 (aM (aL [.string (a8 ([]++eE (eT (db base m) 0))),I0] rfl ⟨rfl,rfl,trivial⟩ ?_))))))))))
     have hstr:([]++eE (eT (db base m) 0):List Nat)=bB base m:=by rw [List.nil_append,vE (bW _),bB,if_neg hm0]
     exact⟨_,rfl,⟨_,_,rfl,(show Value.string _=Value.string _ from congrArg (fun l=>Value.string (a8 l)) hstr),rfl⟩,hw6⟩
    · 
     refine a7 (mv 1 rfl (pu (v:= .int .i64 qn) rfl (aE rfl rfl rfl ((2*qn:Nat):Int) (nB (a:=2) (b:=qn) rfl rfl) (mv 1 rfl (pu (v:= .int .i64 n4) rfl (aE rfl rfl rfl ((n4+2:Nat):Int) (bF (a:=n4) (b:=2) rfl rfl) (aB rfl rfl rfl false (d6 (a:=2*qn) (b:=n4+2) rfl rfl) (a0 (aI rfl (aN (aD (a7 (mv 1 rfl ?_)))))))))))))
     refine cl (vs:= [.slice QA qn qc]) hw5 (uU (bW _) (((hq.ext (e21.trans e26)).updOT ow33 (by decide) uo31).updT hb35 (by decide) u37).wi) rfl (by kernel_rfl) fun xr49 v47 r49 e48 hw6=>?_
     obtain⟨A50,n50,c50,rfl,j50,o50⟩:=r49
     refine mv 1 rfl (aU (cA (cH (⟨v47,j+1,A50,n50,c50,A27,c28⟩:a6×Nat×Option aC×Nat×Nat×Option aC×Nat) ⟨hw6,(bR hle),(by rw [j50,J0]),(by rw [j50];exact hsq),(by rw [←J0];exact o50),(hb36.ext e48),((pw30.updT hb35 u37 (by decide) (by decide)).ext e48),(aG hpb0 ((aG (aG (aG (aG e21.size e26.size) uo31.size) u37.by_.size) e48.size))),((((hoa.ext (e21.trans e26)).updOT ow33 (by decide) uo31).updT hb35 (by decide) u37).ext e48)⟩ (show 64-(j+1)<64-j by omega) rfl ⟨rfl,rfl,rfl,rfl,rfl,rfl,trivial⟩)))
   · 
    refine a7 (mv 2 rfl (cl (vs:= [.slice QA qn qc,.slice A4 n4 c4]) hw1 (xT hq.wi hoa.wi) rfl (by kernel_rfl) fun xr53 v51 r53 e52 hw2=>?_))
    obtain rfl:=r53
    refine aB rfl rfl rfl false (a00 (by omega)) (a0 (aI rfl (cR (cN (cP (cQ (aD (sr (mv 3 rfl (pf g11 0 rfl (pf g11 3 rfl (aS rfl rfl (aY (fun _=>by kernel_rfl) (b_g.ext e52) rfl) (pu (v:= .int .i64 j) rfl ?_)))))))))))))
    refine aE rfl rfl rfl (((j:Nat):Int)-1) (dM rfl) (dD rfl rfl (vs:= [.pointer (some ⟨g11,0,none⟩),.slice A4 n4 c4,.int .i64 (((j:Nat):Int)-1),I0]) (by kernel_rfl) (by decide) (xR (j) (lb:=v5.heap.size) (bs:= []) rfl (hS.ext hw2) (dF (tZ w _ (hS 0 (by decide))) hle0) hbl hbu (b_g.ext e52) (Own.nil _ _ _ _) hgl (aG hpb0 (e52.size)) (hoa.ext e52).wi (by omega) rfl p9 (by decide) hlen0 ((hPw.ext e52).mono (bW _)) (b8 _) (by omega)) ?_)
    rintro _ v54 ⟨rfl,A55,n56,c57,hb58,ho59,uw60,kp61⟩
    refine dE ?_
    have hw3:=uw60.ext hw2 hle0
    refine a0 (sr (mv 1 rfl (pf g11 0 rfl (pf g11 4 rfl (aS rfl rfl (aY (fun _=>by kernel_rfl) hb58 rfl) (uK rfl rfl ho59 (mv 2 rfl (a0 (aM (aL [.string (a8 ([]++eE (eT (db base m) 0))),I0] rfl ⟨rfl,rfl,trivial⟩ ?_))))))))))
    have hstr:([]++eE (eT (db base m) 0):List Nat)=bB base m:=by rw [List.nil_append,vE (bW _),bB,if_neg hm0]
    exact⟨_,rfl,⟨_,_,rfl,(show Value.string _=Value.string _ from congrArg (fun l=>Value.string (a8 l)) hstr),rfl⟩,hw3⟩
  · 
   refine a7 (mv 1 rfl (pu (v:= .int .i64 n4) rfl (aB rfl rfl rfl false (d6 (a:=n4) (b:=12) rfl rfl) (a0 (aI rfl (aN (aD (sr (mv 3 rfl (pf g11 0 rfl (pf g11 3 rfl (aS rfl rfl (aY (fun _=>by kernel_rfl) hb14 rfl) (pu (v:= .int .i64 0) rfl ?_)))))))))))))
   refine aE rfl rfl rfl (((0:Nat):Int)-1) (dM rfl) (dD rfl rfl (vs:= [.pointer (some ⟨g11,0,none⟩),.slice A4 n4 c4,.int .i64 (((0:Nat):Int)-1),I0]) (by kernel_rfl) (by decide) (xR 0 (lb:=v5.heap.size) (bs:= []) rfl (hS.ext hw3) (dF (tZ w _ (hS 0 (by decide))) hle0) hbl hbu hb14 (Own.nil _ _ _ _) hgl (e13.size) (o4.ext (e6.trans e13)).wi (by omega) rfl p9 (by decide) hlen0 (Pw.nil _ _ _) (b8 _) (by omega)) ?_)
   rintro _ v62 ⟨rfl,A63,n64,c65,hb66,ho67,uw68,kp69⟩
   refine dE ?_
   have hw4:=uw68.ext hw3 hle0
   refine a0 (sr (mv 1 rfl (pf g11 0 rfl (pf g11 4 rfl (aS rfl rfl (aY (fun _=>by kernel_rfl) hb66 rfl) (uK rfl rfl ho67 (mv 2 rfl (a0 (aM (aL [.string (a8 ([]++eE (eT (db base m) 0))),I0] rfl ⟨rfl,rfl,trivial⟩ ?_))))))))))
   have hstr:([]++eE (eT (db base m) 0):List Nat)=bB base m:=by rw [List.nil_append,vE (bW _),bB,if_neg hm0]
   exact⟨_,rfl,⟨_,_,rfl,(show Value.string _=Value.string _ from congrArg (fun l=>Value.string (a8 l)) hstr),rfl⟩,hw4⟩
theorem SM {w:a6}(ht:P.underlying t=some .string)(hb:∀b,b∈bs→b<256)(hi:i<bs.length):(Instr.index t (.string (a8 bs)) (.int .i64 (i:Int))).run P w= .ok (.int .u8 ((bs.getD i 0:Nat):Int)) w:=by
 have hs:i<(a8 bs).size:=by rw [cM];exact hi
 rw [run_index_string w t _ _ _ ht,dif_pos ⟨by omega,by omega⟩]
 have e:=uP hb hi hs
 simp only [gV]
 rw [e]
theorem dK {Q:Exit→Act→a6→Prop}{l:Fr}{w:a6}{rest:List aX}{pos:String}{x y:cS}(hw:dI ops l gd=some true)(hx:bZ l x=some (.string (a8 bs)))(hy:bZ l y=some (.int .i64 (i:Int)))(ht:P.underlying t=some .string)(hb:∀b,b∈bs→b<256)(h:wl P ops Q n rest ((d,.int .u8 ((bs.getD i 0:Nat):Int))::l) w)(hi:i<bs.length:=by omega)(hn:d<n:=by decide):wl P ops Q n (⟨some d,.index t x y,ty,pos,af,gd⟩::rest) l w:=by
 refine fJ hw hn (fun a' ha=>?_) h
 have e:(Instr.index t (a'.eval x) (a'.eval y)).run P w= .ok (.int .u8 ((bs.getD i 0:Nat):Int)) w:=by rw [ha.ev hx,ha.ev hy];exact SM ht hb hi
 show ((Instr.index t (a'.eval x) (a'.eval y)>>=fun r=>pure (fZ r):Sem Next)).run P w=_
 rw [cK,e];rfl
set_option maxHeartbeats 4000000 in
theorem BQ {w:a6}(hS:Signs w)(hx:Wi w A an ac m)(hal:an≤4194304):
    aO aF 126 #[.slice A an ac] w (Gv w (Is (.string (a8 (bB 10 m))))):=by
 refine bK Tryz.func126 rfl (n:=11) rfl (bq rfl) (args:= [.slice A an ac]) (bE [(0,.slice A an ac)] ⟨rfl,trivial⟩ (sr (mv 1 rfl (a0 (sr (mv 1 rfl (cl (vs:= [.slice A an ac,.int .i64 10]) (Ext.refl w) (S2 (base:=10) (hS.ext (Ext.refl w)) hx (by omega) (by decide) (by decide)) rfl (by kernel_rfl) fun xr3 v1 r3 e2 hw1=>?_)))))))
 obtain⟨_,_,rfl,rfl,rfl⟩:=r3
 refine mv 1 rfl (pu (v:= .string (a8 (bB 10 m))) rfl (pu (v:= .int .i64 0) rfl (mv 2 rfl (a0 (sr (mv 2 rfl (a0 (aM (aL [.string (a8 (bB 10 m))] rfl ⟨rfl,trivial⟩ ?_)))))))))
 exact⟨_,rfl,rfl,hw1⟩
set_option maxHeartbeats 4000000 in
theorem GW {w:a6}(hbs:∀b,b∈bs→b<256)(hlen:bs.length≤17179869184)(hg:mG 10 bs):
    aO aF 163 #[.string (a8 bs)] w (Gv w (T2 (WR w.heap.size (cG 10 (bs.map dv))) (Is (.int .i64 0)))):=by
 refine bK Tryz.func163 rfl (n:=8) rfl (bq rfl) (args:= [.string (a8 bs)]) (bE [(0,.string (a8 bs))] ⟨rfl,trivial⟩ (sr (mv 2 rfl (a0 (sr (mv 1 rfl (cl (vs:= [.string (a8 bs),.int .i64 10]) (Ext.refl w) (S3 (Ext.refl w).size (base:=10) (by decide) (by decide) hbs hlen hg) rfl (by kernel_rfl) fun xr3 v1 r3 e2 hw1=>?_)))))))
 obtain⟨_,_,rfl,⟨A5,n5,c5,rfl,j5,o5⟩,rfl⟩:=r3
 refine pu (v:= .slice A5 n5 c5) rfl (pu (v:= .int .i64 0) rfl (mv 2 rfl (a0 (aM (aL [.slice A5 n5 c5,I0] rfl ⟨rfl,rfl,trivial⟩ ?_)))))
 exact⟨_,rfl,⟨_,_,rfl,⟨_,_,_,rfl,j5,o5⟩,rfl⟩,hw1⟩
end
section
theorem D6 (h:d<36):dv (sgn d)=d:=by
 unfold dv sgn
 by_cases h1:d<10
 ·rw [if_pos h1,if_pos (by omega)];omega
 ·rw [if_neg h1,if_neg (by omega),if_pos (by omega)];omega
theorem PO (b:Nat)(l:List Nat):cG b l.reverse=nb b l:=by
 induction l with
 | nil=>rfl
 | cons x r ih=>rw [List.reverse_cons,sP,ih,lD,bY,Nat.add_comm]
theorem X7 (hb2:b≤36)(h:Wfb b l):(eE l).map dv=l.reverse:=by
 unfold eE
 rw [List.map_map]
 have:∀x,x∈l.reverse→(dv∘sgn) x=x:=fun x hx=>D6 (by have:=h x (List.mem_reverse.1 hx);omega)
 rw [List.map_congr_left this,List.map_id']
theorem PK (hb:2≤b)(hb2:b≤36):cG b ((bB b m).map dv)=m:=by
 unfold bB
 split
 ·rename_i h;subst h;show cG b [dv 48]=0;rw [show dv 48=0 by decide];unfold cG;simp
 ·rw [X7 hb2 (kY hb m),PO,iB hb]
theorem M5 (hb:2≤b)(hd:d<b)(h:v*b+d≠0):db b (v*b+d)=d::db b v:=by
 rw [lR hb h]
 have e1:(v*b+d)%b=d:=by rw [Nat.add_comm,Nat.add_mul_mod_self_right,fG hd]
 have e2:(v*b+d)/b=v:=by rw [Nat.add_comm,Nat.add_mul_div_right _ _ (by omega),gT hd,f9]
 rw [e1,e2]
end
section
open Go.RowKit
theorem nU {b:List Nat}(h:a=b):mO .eql a b=some true:=by simp [mO,h]
theorem q7 {b:List Nat}(h:a≠b):mO .eql a b=some false:=by simp [mO,h]
theorem xJ {b:List Nat}(h:a=b):mO .neq a b=some false:=by simp [mO,h]
theorem oS {b:List Nat}(h:a≠b):mO .neq a b=some true:=by simp [mO,h]
theorem NF {A B:Int}{a:Nat}(ha:A=(a:Int))(hb:B=(b:Int))(h:b≤a)(h2:a≤255):fQ .sub .u8 A B=some ((a-b:Nat):Int):=by
 subst ha hb;simp only [fQ,fL];rw [show (a:Int)-(b:Int)=((a-b:Nat):Int) by omega,IntWalk.u8_in _ ⟨by omega,by omega⟩]
theorem CT (h:∀c,c∈bs→dv c<base)(hbl:2≤base:=by decide)(hbu:base≤36:=by decide):(wd (cG base (bs.map dv))).length≤bs.length:=by
 have:=vQ (b:=base) hbu (DC h)
 rwa [List.length_map] at this
theorem BI (h:i<bs.length):bs.take (i+1)=bs.take i++ [bs.getD i 0]:=by
 rw [List.take_add_one,bC,cJ h];rfl
end
section
def dg (e:Nat):Nat:=e-e/4
def Q8:List Nat→Bool
 | []=>false
 | c::r=>(decide (c=95)&&decide (r.headD 0=95))||Q8 r
end
section
open Go.ChangeShapes Go.WideShapes Go.ChangeAt Go.RowKit
theorem BJ (bs:List Nat)(i j:Nat):(a8 bs).extract i j=a8 ((bs.take j).drop i):=by
 refine ByteArray.ext ?_
 rw [ByteArray.data_extract]
 unfold a8
 rw [List.extract_toArray,List.extract_eq_take_drop,List.map_drop,k5,List.drop_take]
theorem QS (bs:List Nat)(j:Nat):(a8 bs).extract 0 j=a8 (bs.take j):=by rw [BJ,gU]
theorem G9 (bs:List Nat)(i:Nat):(a8 bs).extract i (a8 bs).size=a8 (bs.drop i):=by rw [BJ,cM,List.take_length]
section
variable {P:cD}{Q:Exit→Act→a6→Prop}{n:Nat}{l:Fr}{w:a6}{ops:Array aX}{rest:List aX}{d:Nat}{ty:aT}{pos:String}{af:Array Edge}{gd:Option (Nat×Bool)}
theorem xX {s:ByteArray}(ht:P.underlying t=some .string):(Instr.sliceAt t (.string s) low high none).run P w=(Instr.slice t (.string s) low high none).run P w:=by
 have hu:(underlying t).run P w= .ok .string w:=run_underlying ht w
 unfold Instr.sliceAt
 simp only [cK,hu,Result.andThen_ok]
theorem lL {x y:cS}(hw:dI ops l gd=some true)(hx:bZ l x=some (.string (a8 bs)))(hy:bZ l y=some (.int .i64 (i:Int)))(ht:P.underlying t=some .string)(h:wl P ops Q n rest ((d,.string (a8 (bs.take i)))::l) w)(hi:i≤bs.length:=by omega)(hn:d<n:=by decide):wl P ops Q n (⟨some d,.slice t x none (some y) none,ty,pos,af,gd⟩::rest) l w:=
 fJ hw hn (fun a' ha=>by
  have e:(Instr.sliceAt t (a'.eval x) (Option.map a'.eval none) ((some y).map a'.eval) (Option.map a'.eval none)).run P w= .ok (.string (a8 (bs.take i))) w:=by
   show (Instr.sliceAt t (a'.eval x) none (some (a'.eval y)) none).run P w=_
   rw [ha.ev hx,ha.ev hy,xX ht,run_slice_string_h (ht:=ht) (kh:= .i64) (h:=(i:Int)) (h0:=by omega) (h2:=by rw [cM];omega),gV,QS]
  show ((Instr.sliceAt t (a'.eval x) (Option.map a'.eval none) ((some y).map a'.eval) (Option.map a'.eval none)>>=fun r=>pure (fZ r):Sem Next)).run P w=_
  rw [cK,e];rfl) h
theorem mK {x y:cS}(hw:dI ops l gd=some true)(hx:bZ l x=some (.string (a8 bs)))(hy:bZ l y=some (.int .i64 (i:Int)))(ht:P.underlying t=some .string)(h:wl P ops Q n rest ((d,.string (a8 (bs.drop i)))::l) w)(hi:i≤bs.length:=by omega)(hn:d<n:=by decide):wl P ops Q n (⟨some d,.slice t x (some y) none none,ty,pos,af,gd⟩::rest) l w:=
 fJ hw hn (fun a' ha=>by
  have e:(Instr.sliceAt t (a'.eval x) ((some y).map a'.eval) (Option.map a'.eval none) (Option.map a'.eval none)).run P w= .ok (.string (a8 (bs.drop i))) w:=by
   show (Instr.sliceAt t (a'.eval x) (some (a'.eval y)) none none).run P w=_
   rw [ha.ev hx,ha.ev hy,xX ht,run_slice_string_l (ht:=ht) (kl:= .i64) (l:=(i:Int)) (h0:=by omega) (h1:=by rw [cM];omega),gV,G9]
  show ((Instr.sliceAt t (a'.eval x) ((some y).map a'.eval) (Option.map a'.eval none) (Option.map a'.eval none)>>=fun r=>pure (fZ r):Sem Next)).run P w=_
  rw [cK,e];rfl) h
end
end
section
open Go.RowKit
theorem UpdO.refl (A:Option aC)(w:a6):UpdO A w w:=⟨EE _ _⟩
theorem UpdO.trans {a b c:a6}(h:UpdO A a b)(k:UpdO A b c):UpdO A a c:=
 ⟨⟨k.by_.os.trans h.by_.os,k.by_.tape.trans h.by_.tape,k.by_.output.trans h.by_.output,aG h.by_.size k.by_.size,
  fun i hi hne=>(k.by_.block i (dF hi h.by_.size) hne).trans (h.by_.block i hi hne)⟩⟩
theorem UpdO.then_ext {a b c:a6}(h:UpdO A a b)(e:Ext b c):UpdO A a c:=
 ⟨⟨e.below.os.trans h.by_.os,e.below.tape.trans h.by_.tape,e.below.output.trans h.by_.output,aG h.by_.size e.below.size,
  fun i hi hne=>(e.below.block i (dF hi h.by_.size)).trans (h.by_.block i hi hne)⟩⟩
theorem Own.at1 {w:a6}{f:Nat→aH}(h:Own w lb T 1 A n c (xs.map f))(hi:i<n):
  ∃p,A.map (·.add (i*1))=some p∧w.cell? p=some (f (xs.getD i 0)):=by
 have hl:=h.rv.len
 rw [List.length_map,cI] at hl
 obtain⟨a,rfl,hc⟩:=h.rv.get i (by omega)
 refine⟨a.add i,by rw [cI];rfl,?_⟩
 rw [hc]
 simp [bC,kK,cJ (show i<xs.length by omega)]
theorem qJ {w:a6}{f:Nat→aH}(h:Own w b T 1 A n c (l.map f)):l.length=n:=by have:=h.rv.len;rwa [List.length_map,cI] at this
theorem Own.take1 {w:a6}{f:Nat→aH}(h:Own w lb T 1 A n c (xs.map f))(hk:k≤n):Own w lb T 1 A k c ((xs.take k).map f):=by
 have:=h.take hk
 rwa [cI,←k5] at this
theorem J6 {w:a6}{f:Nat→aH}(h:Own w lb T 1 A n c (xs.map f))(hi:i<n)(h1:(f u).oneCell'=true)(hcl:(f u).cells= #[f u])(hT:∀w,(sizeOf T').run P w= .ok 1 w){p:aC}(hp:A.map (·.add (i*1))=some p):
  ∃w',(storeVar T' p (f u)).run P w= .ok () w'∧Own w' lb T 1 A n c ((xs.set i u).map f)∧UpdO A w w':=by
 rcases h with⟨_,rfl,_,_⟩ | ⟨g,cs,rfl,hb,hk,hn,hm,hl,hv⟩
 ·omega
 ·rw [Option.map_some,fL,cI,kX,f9] at hp
  subst hp
  rw [cI] at hl hv
  obtain⟨w',hr,hb2,hu,_⟩:=uV (P:=P) (v:=f u) hT hcl hk (show i<cs.length by omega) h1 _ rfl
  refine⟨w',hr,bR ⟨g,_,rfl,hb,hb2,hn,hm,by rw [List.length_set,hl,cI],?_⟩,hu.updO⟩
  rw [cI,List.take_set,hv,List.map_set]
section
variable {P:cD}{Q:Exit→Act→a6→Prop}{n:Nat}{l:Fr}{w:a6}{ops:Array aX}{rest:List aX}{d:Nat}{ty:aT}{pos:String}{af:Array Edge}{gd:Option (Nat×Bool)}
theorem F3 {x y:cS}{f:Nat→aH}{p:aC}(hw:dI ops l gd=some true)(hx:bZ l x=some (.pointer (some p)))(hy:bZ l y=some (f u))(hp:A.map (·.add (i*1))=some p)(h:Own w lb T 1 A m c (xs.map f))(hi:i<m)(h1:(f u).oneCell'=true)(hcl:(f u).cells= #[f u])(hT:∀w,(sizeOf T').run P w= .ok 1 w)(k:∀w',Own w' lb T 1 A m c ((xs.set i u).map f)→UpdO A w w'→wl P ops Q n rest l w'):wl P ops Q n (⟨none,.store T' x y,ty,pos,af,gd⟩::rest) l w:=by
 obtain⟨w',hr,h2,h3⟩:=J6 (P:=P) (T':=T') h hi h1 hcl hT hp
 exact wY hw hx hy hr (k w' h2 h3)
end
theorem mL:Tryz.prog.underlying 140=some (.slice 3):=Tryz.underlying140
theorem oR (w:a6):(sizeOf 3).run aF w= .ok 1 w:=by kernel_rfl
def OI (b:Nat)(ds:List Nat)(v:aH)(w:a6):Prop:=∃A n c,v= .slice A n c∧ds.length=n∧Own w b 3 1 A n c (ds.map I6)
theorem YK {w:a6}(hx:Wi w A n c m)(hl:n≤274877906943):aO aF 177 #[.slice A n c] w (Gv w (OI w.heap.size (db 65536 m))):=by
 obtain⟨xs,h1,rfl⟩:=hx
 refine (qB h1 hl).mono fun e w' h=>?_
 obtain⟨A,n,c,rfl,h1,h2,h3,h4⟩:=h
 exact⟨_,rfl,⟨A,n,c,rfl,h1.out.symm,h3⟩,h4⟩
theorem T8 (n:Nat):bP n (bV .u8 0)=(bP n 0).map B8:=by rw [List.map_replicate];rfl
def GE:List Nat:= [48,49,50,51,52,53,54,55,56,57,97,98,99,100,101,102,103,104,105,106,107,108,109,110,111,112,113,114,115,116,117,118,119,120,121,122]
theorem sW (h:d<36):GE.getD d 0=sgn d:=by
 have key:∀d,d<36→GE.getD d 0=sgn d:=by decide
 exact key d h
theorem VE (hb:0<base)(hj:0<j)(hjl:j≤l.length)(hl:l.length=ds.length)(ht:l.take j=ds.take j)(h:nb 65536 (ds.drop j)=base*nb 65536 (l.drop j)+rest):
  nb 65536 (ds.drop (j-1))=base*nb 65536 ((l.set (j-1) ((rest*65536+l.getD (j-1) 0)/base)).drop (j-1))+(rest*65536+l.getD (j-1) 0)%base:=by
 have e1:l.getD (j-1) 0=ds.getD (j-1) 0:=by
  have h1:(l.take j).getD (j-1) 0=(ds.take j).getD (j-1) 0:=by rw [ht]
  simpa [bC,kJ,show j-1<j by omega] using h1
 have e2:ds.drop (j-1)=ds.getD (j-1) 0::ds.drop j:=by
  rw [zJ (by omega),show j-1+1=j by omega]
 have e3:(l.set (j-1) ((rest*65536+l.getD (j-1) 0)/base)).drop (j-1)=((rest*65536+l.getD (j-1) 0)/base)::l.drop j:=by
  rw [zJ (by rw [List.length_set];omega)]
  congr 1
  ·simp [bC,show j-1<l.length by omega]
  ·rw [show j-1+1=j by omega,List.drop_set_of_lt (by omega)]
 rw [e2,e3,lD,lD,h,←e1]
 have h5:=iA (rest*65536+l.getD (j-1) 0) base
 generalize (rest*65536+l.getD (j-1) 0)/base=q at h5⊢
 generalize (rest*65536+l.getD (j-1) 0)%base=r at h5⊢
 have h6:base*(q+65536*nb 65536 (l.drop j))=base*q+65536*(base*nb 65536 (l.drop j)):=by rw [cT,Nat.mul_left_comm]
 rw [h6]
 omega
theorem VP (hi:i<l.length)(hl:l.length=ds.length)(ht:l.drop i=ds.drop i)(h:nb 65536 (l.take i)+65536^i*c=nb 65536 (ds.take i)*base+v):
  nb 65536 ((l.set i ((l.getD i 0*base+c)%65536)).take (i+1))+65536^(i+1)*((l.getD i 0*base+c)/65536)=nb 65536 (ds.take (i+1))*base+v:=by
 have e1:l.getD i 0=ds.getD i 0:=by
  have h1:(l.drop i).getD 0 0=(ds.drop i).getD 0 0:=by rw [ht]
  simpa [bC,oK] using h1
 rw [qM 65536 hi,cB,bH,j0,←cT,jY,iL 65536 ds i (by omega),dX,←e1,cT,bH]
 omega
theorem GG (h:dv c<36)(hn:¬(65≤c∧c≤90)):sgn (dv c)=c:=by
 unfold dv at h⊢
 unfold sgn
 (repeat' split at h) <;> (repeat' split) <;> omega
theorem VF (h:rest<base)(hd:d<65536):(rest*65536+d)/base<65536:=by
 rw [k0 (by omega)]
 have:(rest+1)*65536≤base*65536:=eA _ h
 omega
theorem a0x {a:Nat}(hb:0<b)(hr:r<b)(h:a=b*q+r):a/b=q∧r=a%b:=by
 subst h
 exact⟨by rw [nH hb,gT hr,dN],by rw [wN,fG hr]⟩
set_option maxHeartbeats 4000000 in
theorem TE {w:a6}(hc:c≤255):
    aO aF 262 #[.int .u8 ((c:Nat):Int)] w (Gv w (Is (.int .i64 (if dv c<36 then ((dv c:Nat):Int) else 99)))):=by
 refine bK Tryz.func262 rfl (n:=23) rfl (bq rfl) (args:= [.int .u8 ((c:Nat):Int)]) (bE [(0,.int .u8 ((c:Nat):Int))] ⟨rfl,trivial⟩ (sr (mv 1 rfl (a0 (aA (aA ?_))))))
 by_cases ha65:c≥65
 · 
  by_cases hb90:c≤90
  · 
   refine a7 (mv 1 rfl (aB rfl rfl rfl true (eI (a:=c) (b:=65) rfl rfl) (mv 2 rfl (aB rfl rfl rfl true (lV (a:=c) (b:=90) rfl rfl) (pu (v:= .bool true) rfl (a0 (aP rfl (sr (mv 1 rfl (aE rfl rfl rfl ((c-65:Nat):Int) (NF (a:=c) (b:=65) rfl rfl (by omega) (by omega)) (bD rfl rfl (v:= .int .i64 (IntKind.i64.wrap ((c-65:Nat):Int))) (v':= .int .i64 ((c-65:Nat):Int)) (lS (by first | omega | exact hle64)) (aE rfl rfl rfl (((c-65)+10:Nat):Int) (bF (a:=c-65) (b:=10) rfl rfl) (mv 1 rfl ?_)))))))))))))
   refine a0 (aM (bL (aL [.int .i64 (((c-65)+10:Nat):Int)] rfl ⟨rfl,trivial⟩ ?_)))
   have hv:dv c=(c-65)+10:=by unfold dv;rw [if_neg (by omega),if_neg (by omega),if_pos (by omega)];omega
   exact⟨_,rfl,(show bV .i64 ((((c-65)+10:Nat):Int))=_ by rw [hv,if_pos (by omega)]),(Ext.refl w)⟩
  · 
   refine a7 (mv 1 rfl (aB rfl rfl rfl true (eI (a:=c) (b:=65) rfl rfl) (mv 2 rfl (aB rfl rfl rfl false (lW (a:=c) (b:=90) rfl rfl) (pu (v:= .bool false) rfl (a0 (aI rfl (aN (aD (aA (sr (mv 1 rfl (aU ?_)))))))))))))
   refine aD (bG ?_)
   refine d4 (T:=a6×Nat)
    (fun⟨wr,i⟩=> [(0,.int .u8 ((c:Nat):Int)),(3,.int .i64 i)])
    (fun⟨wr,i⟩=>wr)
    (fun⟨wr,i⟩=>(Ext w wr)∧(i≤36)∧(∀j,j<i→sgn j≠c))
    (fun⟨wr,i⟩=>36-i)
    (⟨w,0⟩:a6×Nat) ⟨(Ext.refl w),(bW _),(fun j hj=>absurd hj (Nat.not_lt_zero _))⟩ rfl ⟨rfl,rfl,trivial⟩ ?_
   rintro⟨wr,i⟩ ⟨hw1,hi,hno⟩
   refine cC [(0,.int .u8 ((c:Nat):Int)),(3,.int .i64 i)] wr rfl ⟨rfl,rfl,trivial⟩ (aA (aA ?_))
   by_cases hi36:i<36
   · 
    refine a7 (mv 1 rfl (aB rfl rfl rfl true (dB (a:=i) (b:=36) rfl rfl) (a0 (aP rfl (aN (aD (aA (bG (aA ?_)))))))))
    by_cases hne:([48,49,50,51,52,53,54,55,56,57,97,98,99,100,101,102,103,104,105,106,107,108,109,110,111,112,113,114,115,116,117,118,119,120,121,122]).getD i 0=c
    · 
     refine a7 (mv 1 rfl (dK (bs:= [48,49,50,51,52,53,54,55,56,57,97,98,99,100,101,102,103,104,105,106,107,108,109,110,111,112,113,114,115,116,117,118,119,120,121,122]) (i:=i) rfl rfl rfl Tryz.underlying9 (by decide) (mv 1 rfl (aB rfl rfl rfl true (dA (a:=([48,49,50,51,52,53,54,55,56,57,97,98,99,100,101,102,103,104,105,106,107,108,109,110,111,112,113,114,115,116,117,118,119,120,121,122]).getD i 0) (b:=c) rfl rfl) (a0 (aP rfl (sr (mv 2 rfl (a0 (aM (eC (bL (mY ?_)))))))))))))
     refine eC (bL (aL [.int .i64 i] rfl ⟨rfl,trivial⟩ ?_))
     have hv:dv c=i:=by rw [←hne];exact (congrArg dv (sW hi36)).trans (D6 hi36)
     exact⟨_,rfl,(show bV .i64 ((i:Nat):Int)=_ by rw [hv,if_pos hi36]),hw1⟩
    · 
     refine a7 (mv 1 rfl (dK (bs:= [48,49,50,51,52,53,54,55,56,57,97,98,99,100,101,102,103,104,105,106,107,108,109,110,111,112,113,114,115,116,117,118,119,120,121,122]) (i:=i) rfl rfl rfl Tryz.underlying9 (by decide) (mv 1 rfl (aB rfl rfl rfl false (dC (a:=([48,49,50,51,52,53,54,55,56,57,97,98,99,100,101,102,103,104,105,106,107,108,109,110,111,112,113,114,115,116,117,118,119,120,121,122]).getD i 0) (b:=c) rfl rfl) (a0 (aI rfl (aN (cA (aD (a7 (mv 1 rfl (aE rfl rfl rfl ((i+1:Nat):Int) (bF (a:=i) (b:=1) rfl rfl) (mv 1 rfl ?_)))))))))))))
     refine aU (cH (⟨wr,i+1⟩:a6×Nat) ⟨hw1,(by omega),(fun j hj=>by by_cases h:j=i;(· subst h;rw [←sW hi36];exact hne);(· exact hno j (by omega)))⟩ (show 36-(i+1)<36-i by omega) rfl ⟨rfl,rfl,trivial⟩)
   · 
    refine a7 (mv 1 rfl (aB rfl rfl rfl false (cX (a:=i) (b:=36) rfl rfl) (a0 (aI rfl (cR (cN (cP (cQ (aD (sr (mv 1 rfl (a0 (aM ?_)))))))))))))
    refine aL [.int .i64 99] rfl ⟨rfl,trivial⟩ ?_
    have hv:¬dv c<36:=fun h=>hno (dv c) (by omega) (GG h (by omega))
    exact⟨_,rfl,(show bV .i64 (99:Int)=_ by rw [if_neg hv]),hw1⟩
 · 
  refine a7 (mv 1 rfl (aB rfl rfl rfl false (iF (a:=c) (b:=65) rfl rfl) (mv 3 rfl (pu (v:= .bool false) rfl (a0 (aI rfl (aN (aD (aA (sr (mv 1 rfl (a0 (bG ?_)))))))))))))
  refine d4 (T:=a6×Nat)
   (fun⟨wr,i⟩=> [(0,.int .u8 ((c:Nat):Int)),(3,.int .i64 i)])
   (fun⟨wr,i⟩=>wr)
   (fun⟨wr,i⟩=>(Ext w wr)∧(i≤36)∧(∀j,j<i→sgn j≠c))
   (fun⟨wr,i⟩=>36-i)
   (⟨w,0⟩:a6×Nat) ⟨(Ext.refl w),(bW _),(fun j hj=>absurd hj (Nat.not_lt_zero _))⟩ rfl ⟨rfl,rfl,trivial⟩ ?_
  rintro⟨wr,i⟩ ⟨hw1,hi,hno⟩
  refine cC [(0,.int .u8 ((c:Nat):Int)),(3,.int .i64 i)] wr rfl ⟨rfl,rfl,trivial⟩ (aA (aA ?_))
  by_cases hi36:i<36
  · 
   refine a7 (mv 1 rfl (aB rfl rfl rfl true (dB (a:=i) (b:=36) rfl rfl) (a0 (aP rfl (aN (aD (aA (bG (aA ?_)))))))))
   by_cases hne:([48,49,50,51,52,53,54,55,56,57,97,98,99,100,101,102,103,104,105,106,107,108,109,110,111,112,113,114,115,116,117,118,119,120,121,122]).getD i 0=c
   · 
    refine a7 (mv 1 rfl (dK (bs:= [48,49,50,51,52,53,54,55,56,57,97,98,99,100,101,102,103,104,105,106,107,108,109,110,111,112,113,114,115,116,117,118,119,120,121,122]) (i:=i) rfl rfl rfl Tryz.underlying9 (by decide) (mv 1 rfl (aB rfl rfl rfl true (dA (a:=([48,49,50,51,52,53,54,55,56,57,97,98,99,100,101,102,103,104,105,106,107,108,109,110,111,112,113,114,115,116,117,118,119,120,121,122]).getD i 0) (b:=c) rfl rfl) (a0 (aP rfl (sr (mv 2 rfl (a0 (aM (eC (bL (mY ?_)))))))))))))
    refine eC (bL (aL [.int .i64 i] rfl ⟨rfl,trivial⟩ ?_))
    have hv:dv c=i:=by rw [←hne];exact (congrArg dv (sW hi36)).trans (D6 hi36)
    exact⟨_,rfl,(show bV .i64 ((i:Nat):Int)=_ by rw [hv,if_pos hi36]),hw1⟩
   · 
    refine a7 (mv 1 rfl (dK (bs:= [48,49,50,51,52,53,54,55,56,57,97,98,99,100,101,102,103,104,105,106,107,108,109,110,111,112,113,114,115,116,117,118,119,120,121,122]) (i:=i) rfl rfl rfl Tryz.underlying9 (by decide) (mv 1 rfl (aB rfl rfl rfl false (dC (a:=([48,49,50,51,52,53,54,55,56,57,97,98,99,100,101,102,103,104,105,106,107,108,109,110,111,112,113,114,115,116,117,118,119,120,121,122]).getD i 0) (b:=c) rfl rfl) (a0 (aI rfl (aN (cA (aD (a7 (mv 1 rfl (aE rfl rfl rfl ((i+1:Nat):Int) (bF (a:=i) (b:=1) rfl rfl) (mv 1 rfl ?_)))))))))))))
    refine aU (cH (⟨wr,i+1⟩:a6×Nat) ⟨hw1,(by omega),(fun j hj=>by by_cases h:j=i;(· subst h;rw [←sW hi36];exact hne);(· exact hno j (by omega)))⟩ (show 36-(i+1)<36-i by omega) rfl ⟨rfl,rfl,trivial⟩)
  · 
   refine a7 (mv 1 rfl (aB rfl rfl rfl false (cX (a:=i) (b:=36) rfl rfl) (a0 (aI rfl (cR (cN (cP (cQ (aD (sr (mv 1 rfl (a0 (aM ?_)))))))))))))
   refine aL [.int .i64 99] rfl ⟨rfl,trivial⟩ ?_
   have hv:¬dv c<36:=fun h=>hno (dv c) (by omega) (GG h (by omega))
   exact⟨_,rfl,(show bV .i64 (99:Int)=_ by rw [if_neg hv]),hw1⟩
set_option maxHeartbeats 4000000 in
theorem TF {w:a6}(ho:Own w lb 3 1 A n c (ds.map I6))(hwf:Wfb 65536 ds)(hbl:2≤base)(hbu:base≤36)(hn:n≤1099511627776):
    aO aF 261 #[.slice A n c,.int .i64 base] w (fun e w'=>∃es:List Nat,e= .returned (.int .i64 ((nb 65536 ds%base:Nat):Int))∧Own w' lb 3 1 A n c (es.map I6)∧es.length=n∧Wfb 65536 es∧nb 65536 es=nb 65536 ds/base∧UpdO A w w'):=by
 have hdl:=qJ ho
 refine bK Tryz.func261 rfl (n:=32) rfl (bq rfl) (args:= [.slice A n c,.int .i64 base]) (bE [(0,.slice A n c),(1,.int .i64 base)] ⟨rfl,rfl,trivial⟩ (sr (mv 1 rfl (a0 (sr (mv 1 rfl (a0 (aA (sr (mv 1 rfl (pu (v:= .int .i64 n) rfl (aE rfl rfl rfl (((n:Nat):Int)-1) (dM rfl) (mv 1 rfl ?_)))))))))))))
 refine a0 (bG ?_)
 refine d4 (T:=a6×Nat×Nat×List Nat)
  (fun⟨wr,j,rest,l⟩=> [(0,.slice A n c),(1,.int .i64 base),(5,.int .i64 rest),(6,.int .i64 (((j:Nat):Int)-1))])
  (fun⟨wr,j,rest,l⟩=>wr)
  (fun⟨wr,j,rest,l⟩=>(UpdO A w wr)∧(j≤n)∧(Own wr lb 3 1 A n c (l.map I6))∧(l.length=n)∧(Wfb 65536 l)∧(l.take j=ds.take j)∧(rest<base)∧(nb 65536 (ds.drop j)=base*nb 65536 (l.drop j)+rest))
  (fun⟨wr,j,rest,l⟩=>j)
  (⟨w,n,0,ds⟩:a6×Nat×Nat×List Nat) ⟨(UpdO.refl A w),(b8 _),ho,(qJ ho),hwf,rfl,(by omega),(by rw [List.drop_of_length_le (by have:=qJ ho;omega)];rfl)⟩ rfl ⟨rfl,rfl,rfl,rfl,trivial⟩ ?_
 rintro⟨wr,j,rest,l⟩ ⟨hw1,hj,hO,hll,hwl,htk,hre,hv⟩
 refine cC [(0,.slice A n c),(1,.int .i64 base),(5,.int .i64 rest),(6,.int .i64 (((j:Nat):Int)-1))] wr rfl ⟨rfl,rfl,rfl,rfl,trivial⟩ (aA (aA ?_))
 by_cases hj0:0<j
 · 
  have hj1:((j:Nat):Int)-1=((j-1:Nat):Int):=by omega
  refine bE [(0,.slice A n c),(1,.int .i64 base),(5,.int .i64 rest),(6,.int .i64 (((j:Nat):Int)-1))] ⟨rfl,rfl,rfl,rfl,trivial⟩ ?_
  rw [hj1]
  refine a7 (mv 1 rfl (aB rfl rfl rfl true (eI (a:=j-1) (b:=0) rfl rfl) (a0 (aP rfl (aN (aD (aA (bG (aA ?_)))))))))
  have hdb:=iY (b:=65536) hwl (j-1)
  refine a7 (mv 1 rfl (aE rfl rfl rfl ((rest*65536:Nat):Int) (nB (a:=rest) (b:=65536) rfl rfl) (mv 2 rfl ?_)))
  obtain⟨p1,hp1,hc1⟩:=(hO).at1 (i:=j-1) (by omega)
  refine bT rfl rfl rfl mL oR (j-1) rfl p1 hp1 (aS rfl rfl (cZ zX hc1) (aE rfl rfl rfl (((rest*65536)+(l.getD (j-1) 0):Nat):Int) (bF (a:=rest*65536) (b:=l.getD (j-1) 0) rfl rfl) (mv 1 rfl (a0 (sr (mv 4 rfl (aE rfl rfl rfl ((((rest*65536)+(l.getD (j-1) 0))/base:Nat):Int) (iS (a:=(rest*65536)+(l.getD (j-1) 0)) (b:=base) rfl rfl) ?_)))))))
  obtain⟨p2,hp2,hc2⟩:=(hO).at1 (i:=j-1) (by omega)
  refine bT rfl rfl rfl mL oR (j-1) rfl p2 hp2 ?_
  have ow3:=hO
  refine F3 (f:=I6) (u:=((rest*65536)+(l.getD (j-1) 0))/base) (i:=j-1) rfl rfl rfl hp2 ow3 (by omega) rfl rfl oR fun v4 ho5 uo6=>?_
  have hw2:UpdO A w v4:=hw1.trans uo6
  refine a0 (a7 (mv 2 rfl (aE rfl rfl rfl ((((rest*65536)+(l.getD (j-1) 0))%base:Nat):Int) (fC (a:=(rest*65536)+(l.getD (j-1) 0)) (b:=base) rfl rfl) (mv 1 rfl (aU (cA (aD (a7 (mv 1 rfl (aE rfl rfl rfl (((j-1:Nat):Int)-1) (dM rfl) (mv 1 rfl (aU (cH (⟨v4,j-1,(rest*65536+l.getD (j-1) 0)%base,l.set (j-1) (((rest*65536)+(l.getD (j-1) 0))/base)⟩:a6×Nat×Nat×List Nat) ⟨hw2,(by omega),ho5,(by rw [List.length_set];exact hll),(iX hwl _ (hx:=(VF hre (iY hwl _)))),(by rw [List.take_set_of_le (b8 _)];have h:=congrArg (List.take (j-1)) htk;rwa [List.take_take,List.take_take,fT (by omega)] at h),(eO _ (by omega)),(VE (by omega) hj0 (by omega) (by omega) htk hv)⟩ (show j-1<j by omega) rfl ⟨rfl,rfl,rfl,rfl,trivial⟩)))))))))))))
 · 
  refine a7 (mv 1 rfl (aB rfl rfl rfl false (jG) (a0 (aI rfl (cR (cN (cP (cQ (aD (sr (mv 2 rfl (a0 (aM ?_)))))))))))))
  refine aL [.int .i64 rest] rfl ⟨rfl,trivial⟩ ?_
  have hj:j=0:=by omega
  subst hj
  rw [gU,gU] at hv
  obtain⟨h1,h2⟩:=a0x (by omega) hre hv
  exact⟨l,(by rw [←h2];rfl),hO,hll,hwl,h1.symm,hw1⟩
end
end Go.Proofs.YtkepckmdjncehaaGreatDoor
