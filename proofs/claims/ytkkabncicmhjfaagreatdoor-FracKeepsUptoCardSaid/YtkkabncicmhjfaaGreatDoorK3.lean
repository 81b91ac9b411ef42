/- Parts Ref3, Ref3b, Ref3c, Ref3d, Ref5, Ref3f, Rf6, Rf8, Near, Lg5b, Law5d, Fbm, Rf8b, Rxd, Rt, Ru, Rxe, Rv, Rw, Law4, Law4t, joined. -/
import Derived.Test.YtkkabncicmhjfaaGreatDoorK2

open Go renaming Addr → a7, Calls → aQ, Oper → bE, Operand → cR, Program → cO, TypeId → aS, Value → aF, World → a6
open Go.Instr renaming makeSlice → sS
open Int renaming emod_lt_of_pos → lU, emod_nonneg → kS, toNat_natCast → jB
open List renaming drop_eq_getElem_cons → pF, drop_zero → iN, getD_eq_getElem?_getD → bL, getElem?_eq_getElem → cT, getElem?_eq_none → jT, getElem?_map → jM, getElem?_take → lK, getElem_mem → oG, length_append → f8, length_cons → fO, length_drop → iK, length_eq_zero_iff → uK, length_take → eB, mem_map → m4, mem_of_mem_drop → q9, mem_of_mem_take → sR, mem_singleton → rB, replicate → dF, take_append_drop → uJ
open Nat renaming add_assoc → k8, add_mul → eE, add_sub_cancel → oF, add_zero → fN, div_eq_of_lt → jL, div_le_self → gN, div_lt_self → m0, le_refl → aU, le_trans → a8, lt_of_le_of_lt → lS, lt_of_lt_of_le → dA, lt_of_not_le → pC, min_eq_left → iJ, mod_add_div → kF, mod_eq_of_lt → iW, mod_lt → g7, mul_add → dE, mul_assoc → cU, mul_comm → dH, mul_le_mul → kP, mul_le_mul_left → gT, mul_le_mul_right → fC, mul_one → eH, mul_pos → jZ, mul_right_comm → uH, mul_zero → iV, pow_add → eS, pow_le_pow_right → fZ, pow_pos → iI, pow_succ → dS, zero_add → eR, zero_le → bX, zero_mul → wL
open Go.Next renaming value → iE
open Option.some renaming injEq → f7
open Or renaming inl → cJ, inr → cN
open Go.Sem renaming run_bind → cV
open Go.Proofs.Tryz renaming prog → aM
open Go.Value renaming int → eL, slice → qZ
open Go.World renaming block_lt_of_cell? → wI
namespace Go.Proofs.YtkkabncicmhjfaaGreatDoor
set_option maxHeartbeats 4000000
set_option maxRecDepth 20000
variable {A A0 Aa Ab Ad Ae B C D PA:Option a7}{N R X Y Z a ac an b base c c' ca cap cap' cb cd ce d d' f g i ip j k lb m m' n n' na ne p pb pn q r s unit width:Nat}{P:cO}{T e t ty:aS}{af:Array Edge}{bs ds es l l' l0 ld lq lr pre xs ys zs:List Nat}{gd:Option (Nat×Bool)}{ops:Array bE}{rest:List bE}{sa sb sd se:Bool}{u v x y z:Int}{us:List aF}{w w' w0:a6}
section
open Go.RowKit
def TR (A:Option a7)(n c:Nat)(xs:List Nat)(v:aF)(_:a6):Prop:=∃k,v= up A k c∧k≤n∧(k=0∨xs.getD (k-1) 0≠0)∧∀b,nb b (xs.take k)=nb b xs
theorem T9 (hk:k>0)(hl:k≤xs.length)(h0:xs.getD (k-1) 0=0)(hv:∀b,nb b (xs.take k)=nb b xs)(b:Nat):nb b (xs.take (k-1))=nb b xs:=by
 rw [←hv b,←B3 b xs (k-1) i9 h0,Nat.sub_add_cancel hk]
theorem JC (A:Option a7)(c k:Nat):qZ (if c=0 then A else A.map (·.add (0*1))) (k-0) (c-0)= up A k c:=by
 have h0:A.map (·.add (0*1))=A:=by
  cases A with
  | none=>rfl
  | some a=>simp [a3R]
 rw [h0,ite_self];rfl
def WD (m:Nat)(v:aF)(w:a6):Prop:=∃A k c,v= up A k c∧Rd w A k c (db 4294967296 m)
theorem hZ:2≤4294967296:=by decide
theorem yM:WB=4294967296^2:=by decide
theorem Wfb.wf (h:Wfb 4294967296 xs):Wf xs:=fun x hx=>Nat.lt_trans (h x hx) yd
theorem Bk.rd0 (h:Bk w g t (l.map bF))(hw:Wf l)(hl:l.length=N)(hN:N≤9223372036854775807):Rd w (some ⟨g,0,none⟩) N N l:=by
 have:=h.rd hw (o:=0) (n:=N) (cap:=N) (aU _) i9 (by rw [eV];exact hN);rwa [iN,List.take_of_length_le (Nat.le_of_eq hl)] at this
theorem Rd.trim (h:Rd w A n c xs)(hw:Wfb 4294967296 xs)(hk:k≤n)(ht:k=0∨xs.getD (k-1) 0≠0)(hv:∀b,nb b (xs.take k)=nb b xs):Rd w A k c (db 4294967296 (nb 4294967296 xs)):=by
 rw [BZ hZ hw (by rw [h.len];exact hk) (hv _) ht];exact h.take hk (by have:=h.rv.le;omega) (aU _)
theorem a0G {x:Nat}(hl:2*i+1<l.length)(hi:i<xs.length)(hx:xs.getD i 0=x)(h:nb 4294967296 (l.take (2*i))=nv (xs.take i)):nb 4294967296 (((l.set (2*i) (x%4294967296)).set (2*i+1) (x/4294967296)).take (2*(i+1)))=nv (xs.take (i+1)):=by
 rw [show 2*(i+1)=2*i+1+1 by omega,pQ 4294967296 (by rw [List.length_set];exact hl),pQ 4294967296 i9,h,gA xs i hi,hx,yM,←Nat.pow_mul,dS,cU,k8,←dE,kF]
structure WI (ys l:List Nat)(i:Nat):Prop where
 wf:Wf l
 v:nv l=nb 4294967296 (ys.take i)
 z:∀j,i≤2*j→l.getD j 0=0
 o:i%2=1→l.getD (i/2) 0<4294967296
theorem WI.start (ys:List Nat)(N:Nat):WI ys (dF N 0) 0:=by
 refine⟨fun x hx=>by rw [(List.mem_replicate.1 hx).2];decide,?_,fun j _=>?_,fun h=>by omega⟩
 ·rw [xN,xP];rfl
 rw [bL];by_cases h:j<N
 ·rw [List.getElem?_replicate_of_lt h];rfl
 rw [jT (by rw [List.length_replicate];omega)];rfl
theorem WI.even (h:WI ys l i)(he:i%2=0)(hi:i<ys.length)(hl:i/2<l.length)(hd:ys.getD i 0<4294967296):WI ys (l.set (i/2) (ys.getD i 0)) (i+1):=by
 have h0:=h.z (i/2) i9;have h1:=qM hl (ys.getD i 0);refine⟨j0 h.wf _ (Nat.lt_trans hd yd),?_,fun j _=>?_,fun _=>?_⟩
 ·rw [jE 4294967296 ys i hi,←h.v];rw [h0,iV,fN,yM,←Nat.pow_mul,show 2*(i/2)=i by omega] at h1;exact h1
 ·rw [getD_set_ne i9,h.z j i9]
 rw [show (i+1)/2=i/2 by omega,vS hl];exact hd
theorem WI.odd (h:WI ys l i)(he:i%2=1)(hi:i<ys.length)(hl:i/2<l.length)(hd:ys.getD i 0<4294967296):WI ys (l.set (i/2) (l.getD (i/2) 0+ys.getD i 0*4294967296)) (i+1):=by
 have h0:=h.o he;have h1:=qM hl (l.getD (i/2) 0+ys.getD i 0*4294967296);refine⟨j0 h.wf _ (by rw [dJ];omega),?_,fun j _=>?_,fun h=>by omega⟩
 ·have e:WB^(i/2)*4294967296=4294967296^i:=by
   rw [yM,←Nat.pow_mul,←dS,show (2*(i/2)).succ=i by omega]
  rw [jE 4294967296 ys i hi,←h.v,←e];rw [dE] at h1;have f:WB^(i/2)*(ys.getD i 0*4294967296)=WB^(i/2)*4294967296*ys.getD i 0:=by rw [dH (ys.getD i 0),cU]
  omega
 rw [getD_set_ne i9,h.z j i9]
theorem WI.done (h:WI ys l k)(hk:ys.length=k)(hl:l.length=(k+1)/2)(hv:nb 4294967296 ys=nb 4294967296 xs)(ht:k=0∨ys.getD (k-1) 0≠0):l.take ((k+1)/2)=wd (nb 4294967296 xs):=by
 have f:nv l=nb 4294967296 xs:=by rw [h.v,List.take_of_length_le (Nat.le_of_eq hk),hv]
 rw [List.take_of_length_le i9,←f];refine (IG h.wf ?_).symm;by_cases h0:k=0
 ·left;omega
 right;have h1:ys.getD (k-1) 0≠0:=by omega
 rw [f,←hv,oV 4294967296 ys (k-1),hl]
 have h2:WB^((k+1)/2-1)≤4294967296^(k-1):=by
  rw [yM,←Nat.pow_mul]
  exact fZ yd i9
 have o:1≤nb 4294967296 (ys.drop (k-1)):=by
  rw [pF i9,nB]
  rw [bL,cT i9,Option.getD_some] at h1
  omega
 have E:4294967296^(k-1)*1≤4294967296^(k-1)*nb 4294967296 (ys.drop (k-1)):=gT _ o;omega
theorem TJ (h:k=0∨xs.getD (k-1) 0≠0):k=0∨(xs.take k).getD (k-1) 0≠0:=by
 by_cases h0:k=0
 ·exact cJ h0
 rw [BF i9];exact h
theorem oP (hx:Rd w A n cap xs)(hln:n≤1099511627776:=by omega):aQ aM 138 #[up A n cap] w (Gv w (TR A n cap xs)):=by
 have L:=hx.len;have X:=hx.rv.le;refine bU Tryz.func138 21 J (sr (aE 1 J (aV 1 J (aA (no n) J (aE 1 J (aD (bO ?_)))))));refine dC (T:=a6×Nat) (fun⟨wr,k⟩=> [(0,up A n cap),(3,no k)]) (fun⟨wr,k⟩=>wr) (fun⟨wr,k⟩=>(Ext w wr)∧(k≤n)∧(∀b,nb b (xs.take k)=nb b xs)∧(Rd wr A n cap xs)) (fun⟨wr,k⟩=>k) (⟨w,n⟩:a6×Nat) ⟨bN,aU _,fun b=>by rw [List.take_of_length_le i9],hx⟩ J (aP J) ?_;rintro⟨wr,k⟩ ⟨h,U,F,f⟩;refine aD (aD ?_);by_cases H:k>0
 ·by_cases M:xs.getD (k-1) 0=0
  ·refine aK 1 J (aH J (gB k 0 J) (mv 3 J (bD J (iU k 1 J) ?_)));obtain⟨W,E,I,_⟩:=(f).at (i:=k-1) i9;refine cA cH bZ (k-1) W E J (bG (d5 dK I) J (aH J (gZ (xs.getD (k-1) 0) 0 J) (aA (we) J (aG (bC J (bB (aL (bO (aK 1 J (bD J (iU k 1 J) (bS 1 J ?_)))))))))));refine bT (cP (⟨wr,k-1⟩:a6×Nat) ⟨h,i9,T9 H i9 M F,f⟩ (show k-1<k by omega) J (aP J))
  refine aK 1 J (aH J (gB k 0 J) (mv 3 J (bD J (iU k 1 J) ?_)));obtain⟨V,G,o,_⟩:=(f).at (i:=k-1) i9;refine cA cH bZ (k-1) V G J (bG (d5 dK o) J (aH J (hJ (xs.getD (k-1) 0) 0 J) (aA (wk) J (aG (aT J (d9 (cY (d7 (d8 (aL (aV 2 J (mS J J cH bZ (lo:=0) (hi:=k) J J i9 i9 (v:= up A k cap) (JC _ _ _) yd ?_))))))))))));refine aE 1 J (bA (aZ [up A k cap] J ⟨rfl,xl⟩ ?_));exact⟨_,rfl,⟨k,rfl,U,cN M,F⟩,h⟩
 refine aK 1 J (aH J (i7 k 0 J) (mv 7 J (aA (wk) J (aG (aT J (d9 (cY (d7 (d8 (aL (aV 1 J ?_)))))))))));refine mv 1 J (mS J J cH bZ (lo:=0) (hi:=k) J J i9 i9 (v:= up A k cap) (JC _ _ _) yd (aE 1 J (bA (aZ [up A k cap] J ⟨rfl,xl⟩ ?_))));exact⟨_,rfl,⟨k,rfl,U,cJ i9,F⟩,h⟩
theorem v8 (hx:Rd w A n cap xs)(hln:n≤274877906944:=by omega):aQ aM 123 #[up A n cap] w (Gv w (WD (nv xs))):=by
 have bf:=hx.len;have bi:=hx.rv.le;refine bU Tryz.func123 38 J (sr (aE 1 J (aV 1 J (bI [up A n cap] bN (oP hx) J ?_))));rintro _ _ ⟨f,rfl,aq,_,ba⟩ e2 E;have F:=((hx.ext e2)).take aq i9 (aU _);refine aE 1 J (aD ?_);obtain⟨ys,X⟩:∃ys,xs.take f=ys:=⟨_,rfl⟩;have av:nv ys=nv xs:=by rw [←X,xN,xN];exact ba _
 rw [X] at F;have bo:=F.len;refine aK 1 J (aA (no f) J (bD J (qP 2 f J) (mT J (k:=2*f) J J J cH j9 J fun G v6 aj ak e9=>?_)));rw [kG] at ak;have I:w.heap.size≤G:=by rw [←aj];exact E.size
 have o:0<cap→∀a,A=some a→a.block≠G:=fun hc a ha=>by have:=(F).rv.blk a ha hc;omega
 clear aj;have h:=E.trans e9;refine aE 1 J (aD (sr (aE 1 J (bO ?_))));refine dC (T:=a6×Nat×List Nat) (fun⟨wr,i,l⟩=> [(0,up A f cap),(3,up (some ⟨G,0,none⟩) (2*f) (2*f)),(4,no i)]) (fun⟨wr,i,l⟩=>wr) (fun⟨wr,i,l⟩=>(Ext w wr)∧(i≤f)∧(Bk wr G 43 (l.map bF))∧(l.length=2*f)∧(Wfb 4294967296 l)∧(nb 4294967296 (l.take (2*i))=nv (ys.take i))∧(Rd wr A f cap ys)) (fun⟨wr,i,l⟩=>f-i) (⟨v6,0,_⟩:a6×Nat×List Nat) ⟨h,bX _,ak,(List.length_replicate (n:=2*f) (a:=0)),qW _,by simp [nb,nv],(F.ext e9)⟩ J (aP J) ?_;rintro⟨wr,i,l⟩ ⟨E,hi,hb,hl,H,hv,L⟩;refine fW [(0,up A f cap),(3,up (some ⟨G,0,none⟩) (2*f) (2*f)),(4,no i)] wr J (aP J) (aD (aD ?_));by_cases bh:i<f
 ·refine aK 2 J (aA (no f) J (aH J (dV i f J) (aG (bC J (bB (aL (aD (bO (aD ?_)))))))));have bj:ys.getD i 0≤18446744073709551615:=by have:=uB F.wf i;rw [dJ] at this;omega
  refine aK 2 J (bD J (qP 2 i J) (mv 2 J ?_));obtain⟨aw,am,W,_⟩:=(L).at (i:=i) i9;refine cA cH bZ i aw am J (bG (d5 dK W) J (bD J (kT (ys.getD i 0) 4294967296 J) (cA cH bZ (2*i) ⟨G,2*i,none⟩ (eG _ _) J ?_)));have U:=hb;refine i0 J J J bZ J U (iQ (by rw [hl];omega)) J ((l.set (2*i) ((ys.getD i 0)%4294967296)).map bF) (eM _ _ _) fun _ Y M _=>?_;have h:=M.ext E I;refine aG (aK 2 J (bD J (qP 2 i J) (bD J (cK (2*i) 1 J) (mv 2 J ?_))));obtain⟨ao,ai,V,_⟩:=((Rd.updL L M o)).at (i:=i) i9;refine cA cH bZ i ao ai J (bG (d5 dK V) J (bD J (kU (ys.getD i 0) 4294967296 J) (cA cH bZ ((2*i)+1) ⟨G,(2*i)+1,none⟩ (eG _ _) J (i0 J J J bZ J Y (iQ (by rw [(jQ (l:=l) (hl))];omega)) J (((l.set (2*i) ((ys.getD i 0)%4294967296)).set ((2*i)+1) ((ys.getD i 0)/4294967296)).map bF) (eM _ _ _) fun az ag aa _=>?_))));refine cF (bT (aL (aK 1 J (bD J (cK i 1 J) (bS 1 J (cP (⟨az,i+1,_⟩:a6×Nat×List Nat) ⟨(aa.ext h I),i9,ag,(jQ (l:=l.set (2*i) ((ys.getD i 0)%4294967296)) ((jQ (l:=l) (hl)))),jJ (jJ H _ (hx:=(g7 _ yd))) _,a0G i9 i9 J hv,(Rd.updL (Rd.updL L M o) aa o)⟩ (show f-(i+1)<f-i by omega) J (aP J)))))))
 refine aK 2 J (aA (no f) J (aH J (dQ i f J) (aG (aT J (d9 (cY (d7 (d8 (aL (aD ?_))))))))));obtain rfl:f=i:=by omega
 have ab:nb 4294967296 l=nv xs:=by rw [←av];rwa [List.take_of_length_le i9,List.take_of_length_le i9] at hv
 refine aK 1 J (bI [up (some ⟨G,0,none⟩) (2*f) (2*f)] E (oP (hb.rd0 H.wf hl i9)) J ?_);rintro _ _ ⟨au,rfl,Z,ae,ah⟩ ar h;refine aE 1 J (bA (aZ [up (some ⟨G,0,none⟩) au (2*f)] J ⟨rfl,xl⟩ ?_));have hr:=((hb.ext ar).rd0 H.wf hl i9).trim H Z ae ah;rw [ab] at hr;exact⟨_,rfl,⟨_,_,_,rfl,hr⟩,h⟩
theorem E8 (hx:Rd w A n cap xs)(hln:n≤1099511627776)(hwx:Wfb 4294967296 xs):aQ aM 125 #[up A n cap] w (Gv w (WR w.heap.size (nb 4294967296 xs))):=by
 have bh:=hx.len;have bm:=hx.rv.le;refine bU Tryz.func125 45 J (sr (aE 1 J (aV 1 J (bI [up A n cap] bN (oP hx) J ?_))));rintro _ _ ⟨f,rfl,aw,ba,bg⟩ e2 o;have I:=((hx.ext e2)).take aw i9 (aU _);refine aE 1 J (aD ?_);have ah:Wfb 4294967296 (xs.take f):=lH hwx _;have aj:=TJ ba;have ae:=bg 4294967296;obtain⟨ys,az⟩:∃ys,xs.take f=ys:=⟨_,rfl⟩;rw [az] at I ah aj ae;have bf:=I.len;refine aK 1 J (aA (no f) J (bD J (cK f 1 J) (bD J (nD (f+1) 2 J) (mT J (k:=(f+1)/2) J J J cH j9 J fun h v6 ak am e9=>?_))));rw [kG] at am;have F:w.heap.size≤h:=by rw [←ak];exact o.size
 have L:0<cap→∀a,A=some a→a.block≠h:=fun hc a ha=>by have:=(I).rv.blk a ha hc;omega
 clear ak;have G:=o.trans e9;refine aE 1 J (aD (sr (aE 1 J (bO ?_))));refine dC (T:=a6×Nat×List Nat) (fun⟨wr,i,l⟩=> [(0,up A f cap),(3,up (some ⟨h,0,none⟩) ((f+1)/2) ((f+1)/2)),(4,no i)]) (fun⟨wr,i,l⟩=>wr) (fun⟨wr,i,l⟩=>(Ext w wr)∧(i≤f)∧(Bk wr h 43 (l.map bF))∧(l.length=(f+1)/2)∧(WI ys l i)∧(Rd wr A f cap ys)) (fun⟨wr,i,l⟩=>f-i) (⟨v6,0,_⟩:a6×Nat×List Nat) ⟨G,bX _,am,(List.length_replicate (n:=(f+1)/2) (a:=0)),WI.start _ _,(I.ext e9)⟩ J (aP J) ?_;rintro⟨wr,i,l⟩ ⟨o,hi,hb,hl,hI,H⟩;refine fW [(0,up A f cap),(3,up (some ⟨h,0,none⟩) ((f+1)/2) ((f+1)/2)),(4,no i)] wr J (aP J) (aD (aD ?_));by_cases bj:i<f
 ·refine aK 2 J (aA (no f) J (aH J (dV i f J) (aG (bC J (bB (aL (aD (bO (aD ?_)))))))));have aa:=jK (b:=4294967296) ah i;by_cases hp:i%2=0
  ·refine aK 1 J (bD J (kT i 2 J) (aH J (gZ (i%2) 0 J) (aG (bC J (aK 2 J (bD J (nD i 2 J) (mv 2 J ?_)))))));obtain⟨bd,ao,Y,_⟩:=(H).at (i:=i) i9;refine cA cH bZ i bd ao J (bG (d5 dK Y) J (cA cH bZ (i/2) ⟨h,i/2,none⟩ (eG _ _) J ?_));have V:=hb;refine i0 J J J bZ J V (iQ (by rw [hl];omega)) J ((l.set (i/2) (ys.getD i 0)).map bF) (eM _ _ _) fun av Z ag _=>?_;have G:=ag.ext o F;refine cF (bT (aL (aK 1 J (bD J (cK i 1 J) (bS 1 J (cP (⟨av,i+1,_⟩:a6×Nat×List Nat) ⟨G,i9,Z,(jQ (l:=l) (hl)),hI.even hp i9 i9 aa,(Rd.updL H ag L)⟩ (show f-(i+1)<f-i by omega) J (aP J)))))))
  have iG:=hI.o i9;refine aK 1 J (bD J (kT i 2 J) (aH J (hJ (i%2) 0 J) (aG (aT J (f9 [(0,up A f cap),(3,up (some ⟨h,0,none⟩) ((f+1)/2) ((f+1)/2)),(4,no i),(12,no i),(13,up A f cap),(14,no f),(15,we),(18,no i),(19,no (i%2:Nat)),(20,wk)] (aP J) ?_)))));obtain⟨W,hv,E⟩:=gH wr;have G:=o.trans E;obtain⟨M,ab,ai,_⟩:=((H.ext E)).at (i:=i) i9;obtain⟨U,X,aq,ar,_⟩:=xE (P:=aM) (v:= t9 ((l.getD (i/2) 0)+((ys.getD i 0)*4294967296):Nat)) (off:=i/2) bZ J (hb.ext E) (iQ (by rw [hl];omega)) J ((l.set (i/2) ((l.getD (i/2) 0)+((ys.getD i 0)*4294967296))).map bF) (eM _ _ _);refine gJ cM W [up (some ⟨h,0,none⟩) ((f+1)/2) ((f+1)/2),no i,no (i/2:Nat),up (some ⟨h,0,none⟩) ((f+1)/2) ((f+1)/2),no i,no (i/2:Nat),.pointer (some (⟨h,i/2,none⟩)),t9 (l.getD (i/2) 0:Nat),up A f cap,no i,.pointer (some M),t9 (ys.getD i 0:Nat),t9 ((ys.getD i 0)*4294967296:Nat),t9 ((l.getD (i/2) 0)+((ys.getD i 0)*4294967296):Nat),.pointer (some (⟨h,i/2,none⟩)),undef] [W,U] [15] [[],[],[1],[],[],[4],[3,5],[6],[],[],[8,9],[10],[11],[7,12],[0,2],[13,14]] [(0,0),(1,0),(2,0),(3,0),(4,0),(5,0),(6,0),(7,0),(8,0),(9,0),(10,0),(11,0),(12,0),(13,0),(14,0),(15,0)] J hv ?_ ?_
  ·refine aR J (cC J) (aR J (cC J) (aR J (nW J J ((i/2:Nat):Int) (nD i 2 J)) (aR J (cC J) (aR J (cC J) (aR J (nW J J ((i/2:Nat):Int) (nD i 2 J)) (aR J (gG J J cH bZ (i/2) J ⟨h,i/2,none⟩ (eG _ _)) (aR J (cS J (jF dK (hb.ext E) (by rw [hl];omega))) (aR J (cC J) (aR J (cC J) (aR J (gG J J cH bZ i J M ab) (aR J (cS J (d5 dK ai)) (aR J (nW J J (((ys.getD i 0)*4294967296:Nat):Int) (lV (ys.getD i 0) 4294967296 J)) (aR J (nW J J (((l.getD (i/2) 0)+((ys.getD i 0)*4294967296):Nat):Int) (jC (l.getD (i/2) 0) ((ys.getD i 0)*4294967296) J)) ?_)))))))))))));exact aR J (gG J J cH bZ (i/2) J ⟨h,i/2,none⟩ (eG _ _)) (fV _ J J J J J J (fQ J J X) gI)
  refine fU [(0,up A f cap),(3,up (some ⟨h,0,none⟩) ((f+1)/2) ((f+1)/2)),(4,no i),(12,no i),(13,up A f cap),(14,no f),(15,we),(18,no i),(19,no (i%2:Nat)),(20,wk),(29,up (some ⟨h,0,none⟩) ((f+1)/2) ((f+1)/2)),(30,no i),(31,no (i/2:Nat)),(32,up (some ⟨h,0,none⟩) ((f+1)/2) ((f+1)/2)),(33,no i),(34,no (i/2:Nat)),(35,.pointer (some (⟨h,i/2,none⟩))),(36,t9 (l.getD (i/2) 0:Nat)),(37,up A f cap),(38,no i),(39,.pointer (some M)),(40,t9 (ys.getD i 0:Nat)),(41,t9 ((ys.getD i 0)*4294967296:Nat)),(42,t9 ((l.getD (i/2) 0)+((ys.getD i 0)*4294967296):Nat)),(43,.pointer (some (⟨h,i/2,none⟩)))] (aP J) (bT (aL (aK 1 J (bD J (cK i 1 J) (bS 1 J (cP (⟨U,i+1,_⟩:a6×Nat×List Nat) ⟨(ar.ext G F),i9,aq,(jQ (l:=l) (hl)),hI.odd i9 i9 i9 aa,(Rd.updL (H.ext E) ar L)⟩ (show f-(i+1)<f-i by omega) J (aP J)))))))
 refine aK 2 J (aA (no f) J (aH J (dQ i f J) (aG (aT J (d9 (cY (d7 (d8 (aL (sr (bS 2 J ?_)))))))))));refine aL (bA (aZ [up (some ⟨h,0,none⟩) ((f+1)/2) ((f+1)/2)] J ⟨rfl,xl⟩ ?_));obtain rfl:f=i:=by omega
 exact gw (aU _) _ _ (uD (ys:=l) F hb hl (aU _) (by rw [eV];omega) (hI.done bf hl ae aj) o)
def AR (b N m:Nat)(v:aF)(w:a6):Prop:=∃g l,v= up (some ⟨g,0,none⟩) N N∧b≤g∧Bk w g 43 (l.map bF)∧l.length=N∧Wfb 4294967296 l∧nb 4294967296 l=m
theorem VA (hl:i<l.length)(hi:i<xs.length)(h:nb 4294967296 (l.take i)+4294967296^i*c=nb 4294967296 (xs.take i)*f):nb 4294967296 ((l.set i ((xs.getD i 0*f+c)%4294967296)).take (i+1))+4294967296^(i+1)*((xs.getD i 0*f+c)/4294967296)=nb 4294967296 (xs.take (i+1))*f:=by
 rw [pQ 4294967296 hl,dS,cU,k8,←dE,kF,jE 4294967296 xs i hi,eE,←h,dE,cU];omega
theorem KH (hx:Rd w A n cap xs)(hln:n≤274877906944)(hwx:Wfb 4294967296 xs)(hf:f≤4294967295):aQ aM 152 #[up A n cap,t9 f] w (Gv w (AR w.heap.size (n+1) (nb 4294967296 xs*f))):=by
 have ai:=hx.len;have ak:=hx.rv.le;refine bU Tryz.func152 40 J (sr (aE 1 J (aV 1 J (aA (no n) J (bD J (cK n 1 J) (mT J (k:=n+1) J J J cH j9 J fun o v2 X I e5=>?_))))));rw [kG] at I;have E:w.heap.size≤o:=by rw [←X];exact (Ext.refl w).size
 have ae:0<cap→∀a,A=some a→a.block≠o:=fun hc a ha=>by have:=(hx).rv.blk a ha hc;omega
 clear X;have h:=(Ext.refl w).trans e5;refine aE 1 J (sr (aE 1 J (aD (sr (aE 1 J (bO ?_))))));refine dC (T:=a6×Nat×Nat×List Nat) (fun⟨wr,i,c,l⟩=> [(0,up A n cap),(1,t9 f),(5,up (some ⟨o,0,none⟩) (n+1) (n+1)),(6,t9 c),(7,no i)]) (fun⟨wr,i,c,l⟩=>wr) (fun⟨wr,i,c,l⟩=>(Ext w wr)∧(i≤n)∧(c≤4294967295)∧(Bk wr o 43 (l.map bF))∧(l.length=n+1)∧(Wfb 4294967296 l)∧(nb 4294967296 (l.take i)+4294967296^i*c=nb 4294967296 (xs.take i)*f)∧(Rd wr A n cap xs)) (fun⟨wr,i,c,l⟩=>n-i) (⟨v2,0,0,_⟩:a6×Nat×Nat×List Nat) ⟨h,bX _,bX _,I,(List.length_replicate (n:=n+1) (a:=0)),qW _,by simp [nb],(hx.ext e5)⟩ J (aP J) ?_;rintro⟨wr,i,c,l⟩ ⟨h,hi,hc,hb,hl,U,hv,L⟩;refine fW [(0,up A n cap),(1,t9 f),(5,up (some ⟨o,0,none⟩) (n+1) (n+1)),(6,t9 c),(7,no i)] wr J (aP J) (aD (aD ?_));by_cases aj:i<n
 ·refine aK 2 J (aA (no n) J (aH J (dV i n J) (aG (bC J (bB (aL (aD (bO (aD ?_)))))))));have am:=jK (b:=4294967296) hwx i;have hm:(xs.getD i 0)*f≤4294967295*4294967295:=kP i9 hf;refine aK 2 J ?_;obtain⟨p9,Y,ab,_⟩:=(L).at (i:=i) i9;refine cA cH bZ i p9 Y J (bG (d5 dK ab) J (mv 1 J (bD J (lV (xs.getD i 0) f J) (mv 1 J (bD J (jC ((xs.getD i 0)*f) c J) (aE 1 J (aV 3 J (bD J (kT (((xs.getD i 0)*f)+c) 4294967296 J) (cA cH bZ i ⟨o,i,none⟩ (eG _ _) J ?_)))))))));have V:=hb;refine i0 J J J bZ J V (iQ (by rw [hl];omega)) J ((l.set i ((((xs.getD i 0)*f)+c)%4294967296)).map bF) (eM _ _ _) fun aa M H _=>?_;have F:=H.ext h E;refine aG (aK 1 J (bD J (kU (((xs.getD i 0)*f)+c) 4294967296 J) (bS 1 J (bT (aL (aK 1 J (bD J (cK i 1 J) (bS 1 J (cP (⟨aa,i+1,_,_⟩:a6×Nat×Nat×List Nat) ⟨F,i9,i9,M,(jQ (l:=l) (hl)),jJ U _ (hx:=(g7 _ yd)),VA i9 i9 hv,(Rd.updL L H ae)⟩ (show n-(i+1)<n-i by omega) J (aP J))))))))))
 refine aK 2 J (aA (no n) J (aH J (dQ i n J) (aG (aT J (d9 (cY (d7 (d8 (aL (aD ?_))))))))));obtain rfl:n=i:=by omega
 refine aK 2 J (aA (no n) J (mv 1 J (cA cH bZ n ⟨o,n,none⟩ (eG _ _) J ?_)));have G:=hb;refine i0 J J J bZ J G (iQ (by rw [hl];omega)) J ((l.set n c).map bF) (eM _ _ _) fun _ W Z _=>?_;have F:=Z.ext h E;refine aG (sr (aE 2 J (bA (aZ [up (some ⟨o,0,none⟩) (n+1) (n+1)] J ⟨rfl,xl⟩ (⟨_,rfl,⟨_,_,rfl,E,W,(jQ (l:=l) (hl)),jJ U _,?_⟩,F⟩)))));have h2:=pQ 4294967296 (l:=l) (i:=n) i9 c;rw [List.take_of_length_le (by rw [List.length_set];omega)] at h2;rw [h2,hv,List.take_of_length_le i9]
def TK (g N q s:Nat)(l es:List Nat)(w:a6)(e:Ending)(w':a6):Prop:=
 e= .returned (.tuple #[])∧Upd g w w'∧∃l',Bk w' g 43 (l'.map bF)∧l'.length=N∧Wfb 4294967296 l'∧nb 4294967296 l'+q*nb 4294967296 es*4294967296^s=nb 4294967296 l
theorem zQ {e T:Nat}(h:nb b l+q*nb b (es.take i)*b^s=Y+b^(s+i)*c)(hd0:l.getD (s+i) 0=d)(hT:T=c+q*e)(he:nb b (es.take (i+1))=nb b (es.take i)+b^i*e)(hk:s+i<l.length:=by omega)(hd:d'+T=d+b*c':=by omega):nb b (l.set (s+i) d')+q*nb b (es.take (i+1))*b^s=Y+b^(s+(i+1))*c':=by
 have h1:=xQ b hk d';rw [hd0] at h1
 have o:q*nb b (es.take (i+1))*b^s=q*nb b (es.take i)*b^s+b^(s+i)*(q*e):=by
  rw [he,dE,eE,eS]
  congr 1
  grind
 have f:b^(s+i)*(d'+T)=b^(s+i)*(d+b*c'):=by rw [hd]
 have E:b^(s+(i+1))*c'=b^(s+i)*(b*c'):=by rw [←k8,dS,cU]
 rw [hT] at f;simp only [dE] at f;rw [o,E];omega
theorem IW (h:es.length≤i):nb b (es.take (i+1))=nb b (es.take i)+b^i*0:=by
 rw [List.take_of_length_le i9,List.take_of_length_le h];rfl
theorem IX (hw:Wfb 4294967296 l')(hl:l'.length=N)(he:es.length=m)(hs:s+m≤N)(hi:s+i≤N)(hq:q*nb 4294967296 es*4294967296^s≤nb 4294967296 l)(h:nb 4294967296 l'+q*nb 4294967296 (es.take i)*4294967296^s=nb 4294967296 l+4294967296^(s+i)*c)(hend:s+i=N∨m≤i∧c=0):nb 4294967296 l'+q*nb 4294967296 es*4294967296^s=nb 4294967296 l:=by
 have f:m≤i:=by omega
 rw [List.take_of_length_le i9] at h
 have hc:c=0:=by
  rcases hend with h1 | h1
  ·have h2:=qN hw
   rw [hl] at h2
   rw [h1] at h
   refine Nat.eq_zero_of_not_pos fun o=>?_
   have E:4294967296^N*1≤4294967296^N*c:=gT _ o
   omega
  ·exact h1.2
 rw [hc,iV,fN] at h;exact h
theorem xG (hb0:Bk w g 43 (l.map bF))(hl0:l.length=N)(hwl:Wfb 4294967296 l)(hy:Rd w D m cd es)(hwe:Wfb 4294967296 es)(hne:0<cd→∀a,D=some a→a.block≠g)(hqb:q<4294967296)(hq:q*nb 4294967296 es*4294967296^s≤nb 4294967296 l)(hN:N≤1099511627776:=by omega)(hs:s+m≤N:=by omega):aQ aM 139 #[up (some ⟨g,0,none⟩) N N,up D m cd,t9 q,no s] w (TK g N q s l es w):=by
 have I:=hy.len;refine bU Tryz.func139 84 J (sr (aE 1 J (sr (aE 1 J (bO ?_)))));refine dC (T:=a6×Nat×Nat×List Nat) (fun⟨wr,i,c,l'⟩=> [(0,up (some ⟨g,0,none⟩) N N),(1,up D m cd),(2,t9 q),(3,no s),(8,t9 c),(9,no i)]) (fun⟨wr,i,c,l'⟩=>wr) (fun⟨wr,i,c,l'⟩=>(Upd g w wr)∧(s+i≤N)∧(c≤4294967296)∧(Bk wr g 43 (l'.map bF))∧(l'.length=N)∧(Wfb 4294967296 l')∧(nb 4294967296 l'+q*nb 4294967296 (es.take i)*4294967296^s=nb 4294967296 l+4294967296^(s+i)*c)∧(Rd wr D m cd es)) (fun⟨wr,i,c,l'⟩=>N-(s+i)) (⟨w,0,0,l⟩:a6×Nat×Nat×List Nat) ⟨Upd.refl g w,i9,yd,hb0,hl0,hwl,by simp [nb],hy⟩ J (aP J) ?_;rintro⟨wr,i,c,l'⟩ ⟨E,hi,hc,hb,hl,f,o,h⟩;refine aD (aD ?_);by_cases aq:s+i<N
 ·by_cases aj:i<m
  ·refine aK 2 J (bD J (cK s i J) (mv 1 J (aA (no N) J (aH J (dV (s+i) N J) (mv 3 J (aA (no m) J (aH J (dV i m J) (mv 3 J (aA (we) J (aA (we) J (aG (bC J ?_))))))))))));refine bB (aL (aD (bO (sr (aE 2 J (aD (aV 2 J (aA (no m) J (aH J (dV i m J) (aG (bC J ?_)))))))))));have au:=jK (b:=4294967296) hwe i;have hm:q*(es.getD i 0)≤4294967295*4294967295:=kP i9 i9;refine aK 4 J ?_;obtain⟨p1,ae,Z,_⟩:=(h).at (i:=i) i9;refine cA cH bZ i p1 ae J (bG (d5 dK Z) J (bD J (lV q (es.getD i 0) J) (bD J (jC c (q*(es.getD i 0)) J) (aE 1 J (aV 1 J (bD J (kT (c+(q*(es.getD i 0))) 4294967296 J) (aE 1 J (aV 1 J (bD J (kU (c+(q*(es.getD i 0))) 4294967296 J) ?_)))))))));refine aE 1 J (aD ?_);have hd:=jK (b:=4294967296) f (s+i);by_cases W:l'.getD (s+i) 0<(c+(q*(es.getD i 0)))%4294967296
   ·refine aK 3 J (bD J (cK s i J) (cA cH bZ (s+i) ⟨g,s+i,none⟩ (eG _ _) J (bG (jF dK hb (by rw [hl];omega)) J (mv 1 J (aH J (dV (l'.getD (s+i) 0) ((c+(q*(es.getD i 0)))%4294967296) J) (aG (bC J (aV 3 J (bD J (cK s i J) (mv 3 J (bD J (cK s i J) ?_)))))))))));refine cA cH bZ (s+i) ⟨g,s+i,none⟩ (eG _ _) J (bG (jF dK hb (by rw [hl];omega)) J (bD J (jC (l'.getD (s+i) 0) 4294967296 J) (mv 1 J (bD J (zL ((l'.getD (s+i) 0)+4294967296) ((c+(q*(es.getD i 0)))%4294967296) J) (cA cH bZ (s+i) ⟨g,s+i,none⟩ (eG _ _) J ?_)))));have ab:=hb;refine i0 J J J bZ J ab (iQ (by rw [hl];omega)) J ((l'.set (s+i) (((l'.getD (s+i) 0)+4294967296)-((c+(q*(es.getD i 0)))%4294967296))).map bF) (eM _ _ _) fun v2 aa u5 _=>(aG (aK 1 J (bD J (jC ((c+(q*(es.getD i 0)))/4294967296) 1 J) (bS 1 J (bT (aL (aK 1 J (bD J (cK i 1 J) (bS 1 J ?_)))))))));refine cP (⟨v2,i+1,_,_⟩:a6×Nat×Nat×List Nat) ⟨E.trans u5,i9,i9,aa,(jQ (l:=l') (hl)),jJ f _,zQ o J J (jE _ _ _ i9),(Rd.updL h u5 hne)⟩ (show N-(s+(i+1))<N-(s+i) by omega) J (aP J)
   refine aK 3 J (bD J (cK s i J) (cA cH bZ (s+i) ⟨g,s+i,none⟩ (eG _ _) J (bG (jF dK hb (by rw [hl];omega)) J (mv 1 J (aH J (dQ (l'.getD (s+i) 0) ((c+(q*(es.getD i 0)))%4294967296) J) (aG (aT J (aK 3 J (bD J (cK s i J) (mv 3 J (bD J (cK s i J) ?_)))))))))));refine cA cH bZ (s+i) ⟨g,s+i,none⟩ (eG _ _) J (bG (jF dK hb (by rw [hl];omega)) J (mv 1 J (bD J (zL (l'.getD (s+i) 0) ((c+(q*(es.getD i 0)))%4294967296) J) (cA cH bZ (s+i) ⟨g,s+i,none⟩ (eG _ _) J ?_))));have ag:=hb;refine i0 J J J bZ J ag (iQ (by rw [hl];omega)) J ((l'.set (s+i) ((l'.getD (s+i) 0)-((c+(q*(es.getD i 0)))%4294967296))).map bF) (eM _ _ _) fun v7 Y M _=>(cF (bT (aL (aK 1 J (bD J (cK i 1 J) (bS 1 J (cP (⟨v7,i+1,_,_⟩:a6×Nat×Nat×List Nat) ⟨E.trans M,i9,i9,Y,(jQ (l:=l') (hl)),jJ f _,zQ o J J (jE _ _ _ i9),(Rd.updL h M hne)⟩ (show N-(s+(i+1))<N-(s+i) by omega) J (aP J))))))))
  by_cases ao:c>0
  ·refine aK 2 J (bD J (cK s i J) (mv 1 J (aA (no N) J (aH J (dV (s+i) N J) (mv 3 J (aA (no m) J (aH J (dQ i m J) (mv 2 J (aH J (gB c 0 J) (aA (we) J (aA (we) J (cF ?_))))))))))));refine aL (bC J (bB (aL (aD (bO (sr (aE 2 J (aD (aV 2 J (aA (no m) J (aH J (dQ i m J) ?_)))))))))));refine aG (aT J (bB (aL (aV 1 J (bD J (kT c 4294967296 J) (aE 1 J (aV 1 J (bD J (kU c 4294967296 J) (bS 1 J ?_)))))))));refine aL (aD ?_);have hd:=jK (b:=4294967296) f (s+i);by_cases W:l'.getD (s+i) 0<c%4294967296
   ·refine aK 3 J (bD J (cK s i J) (cA cH bZ (s+i) ⟨g,s+i,none⟩ (eG _ _) J (bG (jF dK hb (by rw [hl];omega)) J (mv 1 J (aH J (dV (l'.getD (s+i) 0) (c%4294967296) J) (aG (bC J (aV 3 J (bD J (cK s i J) (mv 3 J (bD J (cK s i J) ?_)))))))))));refine cA cH bZ (s+i) ⟨g,s+i,none⟩ (eG _ _) J (bG (jF dK hb (by rw [hl];omega)) J (bD J (jC (l'.getD (s+i) 0) 4294967296 J) (mv 1 J (bD J (zL ((l'.getD (s+i) 0)+4294967296) (c%4294967296) J) (cA cH bZ (s+i) ⟨g,s+i,none⟩ (eG _ _) J ?_)))));have U:=hb;refine i0 J J J bZ J U (iQ (by rw [hl];omega)) J ((l'.set (s+i) (((l'.getD (s+i) 0)+4294967296)-(c%4294967296))).map bF) (eM _ _ _) fun ah G H _=>(aG (aK 1 J (bD J (jC (c/4294967296) 1 J) (bS 1 J (bT (aL (aK 1 J (bD J (cK i 1 J) (bS 1 J ?_)))))))));refine cP (⟨ah,i+1,_,_⟩:a6×Nat×Nat×List Nat) ⟨E.trans H,i9,i9,G,(jQ (l:=l') (hl)),jJ f _,zQ o J (T:=c) (e:=0) ym (IW i9),(Rd.updL h H hne)⟩ (show N-(s+(i+1))<N-(s+i) by omega) J (aP J)
   refine aK 3 J (bD J (cK s i J) (cA cH bZ (s+i) ⟨g,s+i,none⟩ (eG _ _) J (bG (jF dK hb (by rw [hl];omega)) J (mv 1 J (aH J (dQ (l'.getD (s+i) 0) (c%4294967296) J) (aG (aT J (aK 3 J (bD J (cK s i J) (mv 3 J (bD J (cK s i J) ?_)))))))))));refine cA cH bZ (s+i) ⟨g,s+i,none⟩ (eG _ _) J (bG (jF dK hb (by rw [hl];omega)) J (mv 1 J (bD J (zL (l'.getD (s+i) 0) (c%4294967296) J) (cA cH bZ (s+i) ⟨g,s+i,none⟩ (eG _ _) J ?_))));have V:=hb;refine i0 J J J bZ J V (iQ (by rw [hl];omega)) J ((l'.set (s+i) ((l'.getD (s+i) 0)-(c%4294967296))).map bF) (eM _ _ _) fun X F L _=>(cF (bT (aL (aK 1 J (bD J (cK i 1 J) (bS 1 J (cP (⟨X,i+1,_,_⟩:a6×Nat×Nat×List Nat) ⟨E.trans L,i9,i9,F,(jQ (l:=l') (hl)),jJ f _,zQ o J (T:=c) (e:=0) ym (IW i9),(Rd.updL h L hne)⟩ (show N-(s+(i+1))<N-(s+i) by omega) J (aP J))))))))
  refine aK 2 J (bD J (cK s i J) (mv 1 J (aA (no N) J (aH J (dV (s+i) N J) (mv 3 J (aA (no m) J (aH J (dQ i m J) (mv 2 J (aH J (i7 c 0 J) (aA (wk) J (aA (wk) J (cF ?_))))))))))));refine aL (aT J (d9 (cY (d7 (d8 (sA [] J xl ?_))))));exact⟨rfl,E,l',hb,hl,f,IX f hl I hs hi hq o (cN ⟨by omega,by omega⟩)⟩
 refine aK 2 J (bD J (cK s i J) (mv 1 J (aA (no N) J (aH J (dQ (s+i) N J) (mv 9 J (aA (wk) J (aG (aT J (d9 (cY (d7 (d8 ?_))))))))))));refine sA [] J xl ?_;exact⟨rfl,E,l',hb,hl,f,IX f hl I hs hi hq o (cJ i9)⟩
theorem lZ (h:k<xs.length)(b:Nat):nb b (xs.drop k)=xs.getD k 0+b*nb b (xs.drop (k+1)):=by
 rw [pF h,nB,bL,cT h];rfl
section
set_option linter.unusedSectionVars false
variable {xs es:List Nat}{n m s:Nat}(hx:xs.length=n) (he:es.length=m) (hs:s+m≤n) (hwx:Wfb 4294967296 xs) (hwe:Wfb 4294967296 es)
include hx he hs hwx hwe
theorem O4 (hbig:nb 4294967296 xs<4294967296^(s+m+1))(h0:s+m<n→xs.getD (s+m) 0=0):nb 4294967296 (xs.drop (s+m))=nb 4294967296 (es.drop m):=by
 rw [List.drop_of_length_le (l:=es) i9,B4];by_cases f:s+m<n
 ·have h1:=oV 4294967296 xs (s+m);have h2:=lZ (xs:=xs) (k:=s+m) i9 4294967296;rw [h0 f,eR] at h2;rw [h2] at h1⊢;refine Nat.mul_eq_zero.2 (cN (Nat.eq_zero_of_not_pos fun h=>?_));rw [dS,←cU] at*;have o:4294967296^(s+m)*4294967296*1≤4294967296^(s+m)*4294967296*nb 4294967296 (xs.drop (s+m+1)):=gT _ h;omega
 rw [List.drop_of_length_le i9,B4]
theorem a0Q (h0:s+m<n)(hp:0<xs.getD (s+m) 0):nb 4294967296 es*4294967296^s≤nb 4294967296 xs:=by
 have h1:=oV 4294967296 xs (s+m);have h2:=lZ (xs:=xs) (k:=s+m) i9 4294967296;have f:=qN hwe;rw [he] at f;have h:nb 4294967296 es*4294967296^s≤4294967296^m*4294967296^s:=fC _ (Nat.le_of_lt f);rw [←eS,Nat.add_comm m s] at h;have o:4294967296^(s+m)*1≤4294967296^(s+m)*nb 4294967296 (xs.drop (s+m)):=gT _ i9;omega
theorem FC (hj:j<m)(h:nb 4294967296 (xs.drop (s+(j+1)))=nb 4294967296 (es.drop (j+1)))(hd:xs.getD (s+j) 0<es.getD j 0):¬nb 4294967296 es*4294967296^s≤nb 4294967296 xs:=by
 have h2:=lZ (xs:=xs) (k:=s+j) i9 4294967296;have E:=lZ (xs:=es) (k:=j) i9 4294967296;rw [k8,h] at h2;have F:=oV 4294967296 xs (s+j);have o:=oV 4294967296 es j;have H:=vE hwx (s+j);have f:4294967296^(s+j)*(nb 4294967296 (xs.drop (s+j))+1)≤4294967296^(s+j)*nb 4294967296 (es.drop j):=gT _ i9
 have G:4294967296^(s+j)*nb 4294967296 (es.drop j)≤nb 4294967296 es*4294967296^s:=by
  rw [o,eE,eS,cU,dH (4294967296^s)]
  exact Nat.le_add_left _ _
 rw [dE] at f;omega
theorem FD (hj:j<m)(h:nb 4294967296 (xs.drop (s+(j+1)))=nb 4294967296 (es.drop (j+1)))(hd:xs.getD (s+j) 0>es.getD j 0):nb 4294967296 es*4294967296^s≤nb 4294967296 xs:=by
 have h2:=lZ (xs:=xs) (k:=s+j) i9 4294967296;have I:=lZ (xs:=es) (k:=j) i9 4294967296;rw [k8,h] at h2;have E:=oV 4294967296 xs (s+j);have G:=oV 4294967296 es j;have H:=vE hwe j;have f:4294967296^j*(nb 4294967296 (es.drop j)+1)≤4294967296^j*nb 4294967296 (xs.drop (s+j)):=gT _ i9;rw [dE] at f;have o:nb 4294967296 es≤4294967296^j*nb 4294967296 (xs.drop (s+j)):=by omega
 have F:nb 4294967296 es*4294967296^s≤4294967296^j*nb 4294967296 (xs.drop (s+j))*4294967296^s:=fC _ o
 have e:4294967296^j*nb 4294967296 (xs.drop (s+j))*4294967296^s=4294967296^(s+j)*nb 4294967296 (xs.drop (s+j)):=by
  rw [eS,uH,dH (4294967296^j)]
 omega
theorem O5 (h:nb 4294967296 (xs.drop (s+0))=nb 4294967296 (es.drop 0)):nb 4294967296 es*4294967296^s≤nb 4294967296 xs:=by
 have f:=oV 4294967296 xs s;rw [fN,iN] at h;rw [f,h,dH];exact Nat.le_add_left _ _
theorem O3 (hj:j<m)(h:nb 4294967296 (xs.drop (s+(j+1)))=nb 4294967296 (es.drop (j+1)))(hd:xs.getD (s+j) 0=es.getD j 0):nb 4294967296 (xs.drop (s+j))=nb 4294967296 (es.drop j):=by
 rw [lZ (xs:=xs) (k:=s+j) i9,lZ (xs:=es) (k:=j) i9,k8,h,hd]
end
theorem WS (hx:Rd w A n cap xs)(hln:n≤1099511627776)(hy:Rd w D m cd es)(hwx:Wfb 4294967296 xs)(hwe:Wfb 4294967296 es)(hs:s+m≤n)(hbig:nb 4294967296 xs<4294967296^(s+m+1)):aQ aM 153 #[up A n cap,up D m cd,no s] w (Gv w (Is (.bool (decide (nb 4294967296 es*4294967296^s≤nb 4294967296 xs))))):=by
 have f:=hx.len;have dr:=hx.rv.le;have o:=hy.len;refine bU Tryz.func153 53 J (sr (aE 1 J (aV 2 J (aA (no m) J (bD J (cK s m J) (aE 1 J (aD (aD ?_))))))));by_cases ag:s+m<n
 ·by_cases bu:xs.getD (s+m) 0>0
  ·refine aK 2 J (aA (no n) J (aH J (dV (s+m) n J) (mv 3 J ?_)));obtain⟨p1,cv,de,_⟩:=(hx).at (i:=s+m) i9;refine cA cH bZ (s+m) p1 cv J (bG (d5 dK de) J (aH J (gB (xs.getD (s+m) 0) 0 J) (aA (we) J (aG (bC J (sr (aE 1 J (bA (cI (aZ [we] J ⟨rfl,xl⟩ ?_))))))))));exact⟨_,rfl,(show Value.bool true=_ by rw [decide_eq_true (a0Q f o hs hwx hwe ag bu)]),bN⟩
  have aj:=O4 f o hs hwx hwe hbig (fun _=>by omega);refine aK 2 J (aA (no n) J (aH J (dV (s+m) n J) (mv 3 J ?_)));obtain⟨p2,cp,cm,_⟩:=(hx).at (i:=s+m) i9;refine cA cH bZ (s+m) p2 cp J (bG (d5 dK cm) J (aH J (i7 (xs.getD (s+m) 0) 0 J) (aA (wk) J (aG (aT J (bB (aL (aD (aV 1 J (aA (no m) J (eC J J J (((m:Nat):Int)-1) (fS J) (mv 1 J ?_))))))))))));refine aG (bO ?_);refine dC (T:=a6×Nat×Int) (fun⟨wr,k,ii⟩=> [(0,up A n cap),(1,up D m cd),(2,no s),(8,no ii)]) (fun⟨wr,k,ii⟩=>wr) (fun⟨wr,k,ii⟩=>(Ext w wr)∧(k≤m)∧(ii=(k:Int)-1)∧(nb 4294967296 (xs.drop (s+k))=nb 4294967296 (es.drop k))∧(Rd wr A n cap xs)∧(Rd wr D m cd es)) (fun⟨wr,k,ii⟩=>k) (⟨w,m,_⟩:a6×Nat×Int) ⟨bN,aU _,rfl,aj,hx,hy⟩ J (aP J) ?_;rintro⟨wr,k,ii⟩ ⟨U,hk,ct,E,I,L⟩;refine aD (aD ?_);by_cases dg:0<k
  ·obtain⟨j,rfl⟩:∃j,k=j+1:=⟨k-1,by omega⟩;obtain rfl:ii=(j:Int):=by omega
   refine aK 1 J (aH J (i8 j 0 J) (aG (bC J (bB (aL (aD (bO (aD ?_))))))));by_cases df:xs.getD (s+j) 0≠es.getD j 0
   ·refine f9 [(0,up A n cap),(1,up D m cd),(2,no s),(8,no j),(27,no j),(28,we)] (aP J) ?_;obtain⟨v3,E,e4⟩:=gH wr;have H:=U.trans e4;obtain⟨W,au,av,_⟩:=((I.ext e4)).at (i:=s+j) i9;obtain⟨V,ah,bg,_⟩:=((L.ext e4)).at (i:=j) i9;refine gJ cM v3 [up A n cap,no s,no j,no (s+j:Nat),.pointer (some W),t9 (xs.getD (s+j) 0:Nat),up D m cd,no j,.pointer (some V),t9 (es.getD j 0:Nat),we] [v3] [] [[],[],[],[1,2],[0,3],[4],[],[],[6,7],[8],[5,9]] [(0,0),(1,0),(2,0),(3,0),(4,0),(5,0),(6,0),(7,0),(8,0),(9,0),(10,0)] J E ?_ ?_
    ·exact aR J (cC J) (aR J (cC J) (aR J (cC J) (aR J (nW J J ((s+j:Nat):Int) (cK s j J)) (aR J (gG J J cH bZ (s+j) J W au) (aR J (cS J (d5 dK av)) (aR J (cC J) (aR J (cC J) (aR J (gG J J cH bZ j J V ah) (aR J (cS J (d5 dK bg)) (aR J (mZ J J true (vD (xs.getD (s+j) 0) (es.getD j 0) J)) gI))))))))))
    clear E;refine fU [(0,up A n cap),(1,up D m cd),(2,no s),(8,no j),(27,no j),(28,we),(31,up A n cap),(32,no s),(33,no j),(34,no (s+j:Nat)),(35,.pointer (some W)),(36,t9 (xs.getD (s+j) 0:Nat)),(37,up D m cd),(38,no j),(39,.pointer (some V)),(40,t9 (es.getD j 0:Nat)),(41,we)] (aP J) (aL (bC J (aD ?_)));by_cases aq:xs.getD (s+j) 0>es.getD j 0
    ·refine f9 [(0,up A n cap),(1,up D m cd),(2,no s),(8,no j),(27,no j),(28,we),(31,up A n cap),(32,no s),(33,no j),(34,no (s+j:Nat)),(35,.pointer (some W)),(36,t9 (xs.getD (s+j) 0:Nat)),(37,up D m cd),(38,no j),(39,.pointer (some V)),(40,t9 (es.getD j 0:Nat)),(41,we)] (aP J) ?_;obtain⟨v7,E,e8⟩:=gH v3;have M:=H.trans e8;refine gJ cM v7 [up A n cap,no s,no j,no (s+j:Nat),.pointer (some W),t9 (xs.getD (s+j) 0:Nat),up D m cd,no j,.pointer (some V),t9 (es.getD j 0:Nat),we,we] [v7] [] [[],[],[],[1,2],[0,3],[4],[],[],[6,7],[8],[5,9],[10]] [(0,0),(1,0),(2,0),(3,0),(4,0),(5,0),(6,0),(7,0),(8,0),(9,0),(10,0),(11,0)] J E ?_ ?_
     ·exact aR J (cC J) (aR J (cC J) (aR J (cC J) (aR J (nW J J ((s+j:Nat):Int) (cK s j J)) (aR J (gG J J cH bZ (s+j) J W au) (aR J (cS J (d5 dK (e8.cell av))) (aR J (cC J) (aR J (cC J) (aR J (gG J J cH bZ j J V ah) (aR J (cS J (d5 dK (e8.cell bg))) (aR J (mZ J J true (gB (xs.getD (s+j) 0) (es.getD j 0) J)) (aR J (kA J) gI)))))))))))
     clear E;refine fU [(0,up A n cap),(1,up D m cd),(2,no s),(8,no j),(27,no j),(28,we),(31,up A n cap),(32,no s),(33,no j),(34,no (s+j:Nat)),(35,.pointer (some W)),(36,t9 (xs.getD (s+j) 0:Nat)),(37,up D m cd),(38,no j),(39,.pointer (some V)),(40,t9 (es.getD j 0:Nat)),(41,we),(42,up A n cap),(43,no s),(44,no j),(45,no (s+j:Nat)),(46,.pointer (some W)),(47,t9 (xs.getD (s+j) 0:Nat)),(48,up D m cd),(49,no j),(50,.pointer (some V)),(51,t9 (es.getD j 0:Nat)),(52,we),(6,we)] (aP J) (aL (bA (gV (cI (oC (gV (cI (aZ [we] J ⟨rfl,xl⟩ ?_))))))));exact⟨_,rfl,(show Value.bool true=_ by rw [decide_eq_true (FD f o hs hwx hwe i9 E aq)]),M⟩
    refine f9 [(0,up A n cap),(1,up D m cd),(2,no s),(8,no j),(27,no j),(28,we),(31,up A n cap),(32,no s),(33,no j),(34,no (s+j:Nat)),(35,.pointer (some W)),(36,t9 (xs.getD (s+j) 0:Nat)),(37,up D m cd),(38,no j),(39,.pointer (some V)),(40,t9 (es.getD j 0:Nat)),(41,we)] (aP J) ?_;obtain⟨v9,E,aw⟩:=gH v3;have M:=H.trans aw;refine gJ cM v9 [up A n cap,no s,no j,no (s+j:Nat),.pointer (some W),t9 (xs.getD (s+j) 0:Nat),up D m cd,no j,.pointer (some V),t9 (es.getD j 0:Nat),F0,F0] [v9] [] [[],[],[],[1,2],[0,3],[4],[],[],[6,7],[8],[5,9],[10]] [(0,0),(1,0),(2,0),(3,0),(4,0),(5,0),(6,0),(7,0),(8,0),(9,0),(10,0),(11,0)] J E ?_ ?_
    ·exact aR J (cC J) (aR J (cC J) (aR J (cC J) (aR J (nW J J ((s+j:Nat):Int) (cK s j J)) (aR J (gG J J cH bZ (s+j) J W au) (aR J (cS J (d5 dK (aw.cell av))) (aR J (cC J) (aR J (cC J) (aR J (gG J J cH bZ j J V ah) (aR J (cS J (d5 dK (aw.cell bg))) (aR J (mZ J J false (i7 (xs.getD (s+j) 0) (es.getD j 0) J)) (aR J (kA J) gI)))))))))))
    clear E;refine fU [(0,up A n cap),(1,up D m cd),(2,no s),(8,no j),(27,no j),(28,we),(31,up A n cap),(32,no s),(33,no j),(34,no (s+j:Nat)),(35,.pointer (some W)),(36,t9 (xs.getD (s+j) 0:Nat)),(37,up D m cd),(38,no j),(39,.pointer (some V)),(40,t9 (es.getD j 0:Nat)),(41,we),(42,up A n cap),(43,no s),(44,no j),(45,no (s+j:Nat)),(46,.pointer (some W)),(47,t9 (xs.getD (s+j) 0:Nat)),(48,up D m cd),(49,no j),(50,.pointer (some V)),(51,t9 (es.getD j 0:Nat)),(52,wk),(6,wk)] (aP J) (aL (bA (gV (cI (oC (gV (cI (aZ [F0] J ⟨rfl,xl⟩ ?_))))))));exact⟨_,rfl,(show Value.bool false=_ by rw [decide_eq_false (FC f o hs hwx hwe i9 E i9)]),M⟩
   refine f9 [(0,up A n cap),(1,up D m cd),(2,no s),(8,no j),(27,no j),(28,we)] (aP J) ?_;obtain⟨ba,E,ab⟩:=gH wr;have H:=U.trans ab;obtain⟨bd,ci,bh,_⟩:=((I.ext ab)).at (i:=s+j) i9;obtain⟨ar,bj,ch,_⟩:=((L.ext ab)).at (i:=j) i9;refine gJ cM ba [up A n cap,no s,no j,no (s+j:Nat),.pointer (some bd),t9 (xs.getD (s+j) 0:Nat),up D m cd,no j,.pointer (some ar),t9 (es.getD j 0:Nat),F0] [ba] [] [[],[],[],[1,2],[0,3],[4],[],[],[6,7],[8],[5,9]] [(0,0),(1,0),(2,0),(3,0),(4,0),(5,0),(6,0),(7,0),(8,0),(9,0),(10,0)] J E ?_ ?_
   ·exact aR J (cC J) (aR J (cC J) (aR J (cC J) (aR J (nW J J ((s+j:Nat):Int) (cK s j J)) (aR J (gG J J cH bZ (s+j) J bd ci) (aR J (cS J (d5 dK bh)) (aR J (cC J) (aR J (cC J) (aR J (gG J J cH bZ j J ar bj) (aR J (cS J (d5 dK ch)) (aR J (mZ J J false (lW (xs.getD (s+j) 0) (es.getD j 0) J)) gI))))))))))
   clear E;refine fU [(0,up A n cap),(1,up D m cd),(2,no s),(8,no j),(27,no j),(28,we),(31,up A n cap),(32,no s),(33,no j),(34,no (s+j:Nat)),(35,.pointer (some bd)),(36,t9 (xs.getD (s+j) 0:Nat)),(37,up D m cd),(38,no j),(39,.pointer (some ar)),(40,t9 (es.getD j 0:Nat)),(41,wk)] (aP J) (aL (aT J (bB (bT (aL (aK 1 J (eC J J J (((j:Nat):Int)-1) (fS J) (bS 1 J (cP (⟨ba,j,_⟩:a6×Nat×Int) ⟨H,i9,rfl,O3 f o hs hwx hwe i9 E i9,(I.ext ab),(L.ext ab)⟩ (show j<j+1 by omega) J (aP J))))))))))
  obtain rfl:k=0:=by omega
  refine aK 1 J (aH J (mJ) (aG (aT J (d9 (cY (d7 (d8 (aL (sr (aE 1 J (bA ?_)))))))))));refine aZ [we] J ⟨rfl,xl⟩ ?_;exact⟨_,rfl,(show Value.bool true=_ by rw [decide_eq_true (O5 f o hs hwx hwe E)]),U⟩
 have aj:=O4 f o hs hwx hwe hbig (fun h=>absurd h ag);refine aK 2 J (aA (no n) J (aH J (dQ (s+m) n J) (mv 6 J (aA (wk) J (aG (aT J (bB (aL (aD (aV 1 J (aA (no m) J ?_)))))))))));refine eC J J J (((m:Nat):Int)-1) (fS J) (aE 1 J (bO ?_));refine dC (T:=a6×Nat×Int) (fun⟨wr,k,ii⟩=> [(0,up A n cap),(1,up D m cd),(2,no s),(8,no ii)]) (fun⟨wr,k,ii⟩=>wr) (fun⟨wr,k,ii⟩=>(Ext w wr)∧(k≤m)∧(ii=(k:Int)-1)∧(nb 4294967296 (xs.drop (s+k))=nb 4294967296 (es.drop k))∧(Rd wr A n cap xs)∧(Rd wr D m cd es)) (fun⟨wr,k,ii⟩=>k) (⟨w,m,_⟩:a6×Nat×Int) ⟨bN,aU _,rfl,aj,hx,hy⟩ J (aP J) ?_;rintro⟨wr,k,ii⟩ ⟨U,hk,ct,E,I,L⟩;refine aD (aD ?_);by_cases dg:0<k
 ·obtain⟨j,rfl⟩:∃j,k=j+1:=⟨k-1,by omega⟩;obtain rfl:ii=(j:Int):=by omega
  refine aK 1 J (aH J (i8 j 0 J) (aG (bC J (bB (aL (aD (bO (aD ?_))))))));by_cases df:xs.getD (s+j) 0≠es.getD j 0
  ·refine f9 [(0,up A n cap),(1,up D m cd),(2,no s),(8,no j),(27,no j),(28,we)] (aP J) ?_;obtain⟨ae,E,ao⟩:=gH wr;have H:=U.trans ao;obtain⟨G,aa,Z,_⟩:=((I.ext ao)).at (i:=s+j) i9;obtain⟨F,Y,X,_⟩:=((L.ext ao)).at (i:=j) i9;refine gJ cM ae [up A n cap,no s,no j,no (s+j:Nat),.pointer (some G),t9 (xs.getD (s+j) 0:Nat),up D m cd,no j,.pointer (some F),t9 (es.getD j 0:Nat),we] [ae] [] [[],[],[],[1,2],[0,3],[4],[],[],[6,7],[8],[5,9]] [(0,0),(1,0),(2,0),(3,0),(4,0),(5,0),(6,0),(7,0),(8,0),(9,0),(10,0)] J E ?_ ?_
   ·exact aR J (cC J) (aR J (cC J) (aR J (cC J) (aR J (nW J J ((s+j:Nat):Int) (cK s j J)) (aR J (gG J J cH bZ (s+j) J G aa) (aR J (cS J (d5 dK Z)) (aR J (cC J) (aR J (cC J) (aR J (gG J J cH bZ j J F Y) (aR J (cS J (d5 dK X)) (aR J (mZ J J true (vD (xs.getD (s+j) 0) (es.getD j 0) J)) gI))))))))))
   clear E;refine fU [(0,up A n cap),(1,up D m cd),(2,no s),(8,no j),(27,no j),(28,we),(31,up A n cap),(32,no s),(33,no j),(34,no (s+j:Nat)),(35,.pointer (some G)),(36,t9 (xs.getD (s+j) 0:Nat)),(37,up D m cd),(38,no j),(39,.pointer (some F)),(40,t9 (es.getD j 0:Nat)),(41,we)] (aP J) (aL (bC J (aD ?_)));by_cases aq:xs.getD (s+j) 0>es.getD j 0
   ·refine f9 [(0,up A n cap),(1,up D m cd),(2,no s),(8,no j),(27,no j),(28,we),(31,up A n cap),(32,no s),(33,no j),(34,no (s+j:Nat)),(35,.pointer (some G)),(36,t9 (xs.getD (s+j) 0:Nat)),(37,up D m cd),(38,no j),(39,.pointer (some F)),(40,t9 (es.getD j 0:Nat)),(41,we)] (aP J) ?_;obtain⟨bw,E,az⟩:=gH ae;have M:=H.trans az;refine gJ cM bw [up A n cap,no s,no j,no (s+j:Nat),.pointer (some G),t9 (xs.getD (s+j) 0:Nat),up D m cd,no j,.pointer (some F),t9 (es.getD j 0:Nat),we,we] [bw] [] [[],[],[],[1,2],[0,3],[4],[],[],[6,7],[8],[5,9],[10]] [(0,0),(1,0),(2,0),(3,0),(4,0),(5,0),(6,0),(7,0),(8,0),(9,0),(10,0),(11,0)] J E ?_ ?_
    ·exact aR J (cC J) (aR J (cC J) (aR J (cC J) (aR J (nW J J ((s+j:Nat):Int) (cK s j J)) (aR J (gG J J cH bZ (s+j) J G aa) (aR J (cS J (d5 dK (az.cell Z))) (aR J (cC J) (aR J (cC J) (aR J (gG J J cH bZ j J F Y) (aR J (cS J (d5 dK (az.cell X))) (aR J (mZ J J true (gB (xs.getD (s+j) 0) (es.getD j 0) J)) (aR J (kA J) gI)))))))))))
    clear E;refine fU [(0,up A n cap),(1,up D m cd),(2,no s),(8,no j),(27,no j),(28,we),(31,up A n cap),(32,no s),(33,no j),(34,no (s+j:Nat)),(35,.pointer (some G)),(36,t9 (xs.getD (s+j) 0:Nat)),(37,up D m cd),(38,no j),(39,.pointer (some F)),(40,t9 (es.getD j 0:Nat)),(41,we),(42,up A n cap),(43,no s),(44,no j),(45,no (s+j:Nat)),(46,.pointer (some G)),(47,t9 (xs.getD (s+j) 0:Nat)),(48,up D m cd),(49,no j),(50,.pointer (some F)),(51,t9 (es.getD j 0:Nat)),(52,we),(6,we)] (aP J) (aL (bA (gV (cI (oC (gV (cI (aZ [we] J ⟨rfl,xl⟩ ?_))))))));exact⟨_,rfl,(show Value.bool true=_ by rw [decide_eq_true (FD f o hs hwx hwe i9 E aq)]),M⟩
   refine f9 [(0,up A n cap),(1,up D m cd),(2,no s),(8,no j),(27,no j),(28,we),(31,up A n cap),(32,no s),(33,no j),(34,no (s+j:Nat)),(35,.pointer (some G)),(36,t9 (xs.getD (s+j) 0:Nat)),(37,up D m cd),(38,no j),(39,.pointer (some F)),(40,t9 (es.getD j 0:Nat)),(41,we)] (aP J) ?_;obtain⟨bm,E,ai⟩:=gH ae;have M:=H.trans ai;refine gJ cM bm [up A n cap,no s,no j,no (s+j:Nat),.pointer (some G),t9 (xs.getD (s+j) 0:Nat),up D m cd,no j,.pointer (some F),t9 (es.getD j 0:Nat),F0,F0] [bm] [] [[],[],[],[1,2],[0,3],[4],[],[],[6,7],[8],[5,9],[10]] [(0,0),(1,0),(2,0),(3,0),(4,0),(5,0),(6,0),(7,0),(8,0),(9,0),(10,0),(11,0)] J E ?_ ?_
   ·exact aR J (cC J) (aR J (cC J) (aR J (cC J) (aR J (nW J J ((s+j:Nat):Int) (cK s j J)) (aR J (gG J J cH bZ (s+j) J G aa) (aR J (cS J (d5 dK (ai.cell Z))) (aR J (cC J) (aR J (cC J) (aR J (gG J J cH bZ j J F Y) (aR J (cS J (d5 dK (ai.cell X))) (aR J (mZ J J false (i7 (xs.getD (s+j) 0) (es.getD j 0) J)) (aR J (kA J) gI)))))))))))
   clear E;refine fU [(0,up A n cap),(1,up D m cd),(2,no s),(8,no j),(27,no j),(28,we),(31,up A n cap),(32,no s),(33,no j),(34,no (s+j:Nat)),(35,.pointer (some G)),(36,t9 (xs.getD (s+j) 0:Nat)),(37,up D m cd),(38,no j),(39,.pointer (some F)),(40,t9 (es.getD j 0:Nat)),(41,we),(42,up A n cap),(43,no s),(44,no j),(45,no (s+j:Nat)),(46,.pointer (some G)),(47,t9 (xs.getD (s+j) 0:Nat)),(48,up D m cd),(49,no j),(50,.pointer (some F)),(51,t9 (es.getD j 0:Nat)),(52,wk),(6,wk)] (aP J) (aL (bA (gV (cI (oC (gV (cI (aZ [F0] J ⟨rfl,xl⟩ ?_))))))));exact⟨_,rfl,(show Value.bool false=_ by rw [decide_eq_false (FC f o hs hwx hwe i9 E i9)]),M⟩
  refine f9 [(0,up A n cap),(1,up D m cd),(2,no s),(8,no j),(27,no j),(28,we)] (aP J) ?_;obtain⟨ak,E,iB⟩:=gH wr;have H:=U.trans iB;obtain⟨am,bi,bo,_⟩:=((I.ext iB)).at (i:=s+j) i9;obtain⟨bf,br,bp,_⟩:=((L.ext iB)).at (i:=j) i9;refine gJ cM ak [up A n cap,no s,no j,no (s+j:Nat),.pointer (some am),t9 (xs.getD (s+j) 0:Nat),up D m cd,no j,.pointer (some bf),t9 (es.getD j 0:Nat),F0] [ak] [] [[],[],[],[1,2],[0,3],[4],[],[],[6,7],[8],[5,9]] [(0,0),(1,0),(2,0),(3,0),(4,0),(5,0),(6,0),(7,0),(8,0),(9,0),(10,0)] J E ?_ ?_
  ·exact aR J (cC J) (aR J (cC J) (aR J (cC J) (aR J (nW J J ((s+j:Nat):Int) (cK s j J)) (aR J (gG J J cH bZ (s+j) J am bi) (aR J (cS J (d5 dK bo)) (aR J (cC J) (aR J (cC J) (aR J (gG J J cH bZ j J bf br) (aR J (cS J (d5 dK bp)) (aR J (mZ J J false (lW (xs.getD (s+j) 0) (es.getD j 0) J)) gI))))))))))
  clear E;refine fU [(0,up A n cap),(1,up D m cd),(2,no s),(8,no j),(27,no j),(28,we),(31,up A n cap),(32,no s),(33,no j),(34,no (s+j:Nat)),(35,.pointer (some am)),(36,t9 (xs.getD (s+j) 0:Nat)),(37,up D m cd),(38,no j),(39,.pointer (some bf)),(40,t9 (es.getD j 0:Nat)),(41,wk)] (aP J) (aL (aT J (bB (bT (aL (aK 1 J (eC J J J (((j:Nat):Int)-1) (fS J) (bS 1 J (cP (⟨ak,j,_⟩:a6×Nat×Int) ⟨H,i9,rfl,O3 f o hs hwx hwe i9 E i9,(I.ext iB),(L.ext iB)⟩ (show j<j+1 by omega) J (aP J))))))))))
 obtain rfl:k=0:=by omega
 refine aK 1 J (aH J (mJ) (aG (aT J (d9 (cY (d7 (d8 (aL (sr (aE 1 J (bA ?_)))))))))));refine aZ [we] J ⟨rfl,xl⟩ ?_;exact⟨_,rfl,(show Value.bool true=_ by rw [decide_eq_true (O5 f o hs hwx hwe E)]),U⟩
theorem MA (hi:i<l.length):l.getD i 0*b^i≤nb b l:=by
 rw [oV b l i,lZ hi,dE,dH (l.getD i 0)];omega
theorem a2p {x y:Nat}(h:q*y+r=x)(hr:r<y):q=x/y∧r=x%y:=by
 subst h;rw [dH];constructor
 ·rw [Nat.mul_add_div i9,jL hr];rfl
 rw [Nat.mul_add_mod,iW hr]
theorem ER (hb:0<b)(hm:0<m)(hl:es.length=m)(ht:es.getD (m-1) 0≠0):b^(m-1)≤nb b es:=by
 refine a8 ?_ (MA (b:=b) (l:=es) (i:=m-1) i9);exact Nat.le_mul_of_pos_left _ i9
theorem YZ (hb:0<b)(hm:0<m)(hl:es.length=m)(ht:es.getD (m-1) 0≠0):0<nb b es:=dA (iI hb) (ER hb hm hl ht)
theorem UO (hw:Wfb 4294967296 xs)(hn:xs.length=n)(hl:es.length=m)(h:n<m)(ht:es.getD (m-1) 0≠0):nb 4294967296 xs<nb 4294967296 es:=by
 have h1:=qN hw;rw [hn] at h1;have h2:=ER (b:=4294967296) yd i9 hl ht;have f:4294967296^n≤4294967296^(m-1):=fZ yd i9;omega
theorem AK {b:Bool}(hx:Rd w A n cap xs)(hy:Rd w D m cd es)(hwx:Wfb 4294967296 xs)(hwe:Wfb 4294967296 es)(hbig:nb 4294967296 xs<4294967296^(s+m+1))(hb:decide (nb 4294967296 es*4294967296^s≤nb 4294967296 xs)=b)(hln:n≤1099511627776:=by omega)(hs:s+m≤n:=by omega):aQ aM 153 #[up A n cap,up D m cd,no (s:Int)] w (Gv w (Is (.bool b))):=hb▸WS hx hln hy hwx hwe hs hbig
theorem Z0 {i':Nat}(h:i+1=i')(hi:i'<l.length):(l.getD i 0+l.getD i' 0*b)*b^i≤nb b l:=by
 subst h;rw [oV b l i,lZ (k:=i) i9,lZ (k:=i+1) hi,dH,dH (l.getD (i+1) 0)];refine a8 (gT _ ?_) (Nat.le_add_left _ _);rw [dE];omega
theorem a16 (hw:Wfb 4294967296 l)(hk:k≤l.length)(h0:0<k)(hv:nb 4294967296 (l.take k)=nb 4294967296 l):nb 4294967296 l<(l.getD (k-1) 0+1)*4294967296^(k-1):=by
 obtain⟨j,rfl⟩:∃j,k=j+1:=⟨k-1,by omega⟩;rw [←hv,jE 4294967296 l j i9,oF,eE,Nat.one_mul,dH (l.getD j 0)];have:=vE hw j;omega
theorem P7 {D hd t:Nat}(hD:D<hd*4294967296^(k-1))(hk:0<k)(ht:t*4294967296^(j+k-1)≤R):t/hd*D*4294967296^j≤R:=by
 have h1:t/hd*D≤t/hd*(hd*4294967296^(k-1)):=gT _ (Nat.le_of_lt hD)
 have h2:t/hd*(hd*4294967296^(k-1))≤t*4294967296^(k-1):=by
  rw [←cU]
  exact fC _ (Nat.div_mul_le_self t hd)
 have f:=fC (4294967296^j) (a8 h1 h2);rw [cU t,←eS,show k-1+j=j+k-1 by omega] at f;exact a8 f ht
theorem yB {D:Nat}(h:n*D*4294967296^j≤R)(hR:R<D*4294967296^(j+1)):n<4294967296:=by
 refine pC fun hn=>?_;have h1:4294967296*D*4294967296^j≤n*D*4294967296^j:=fC _ (fC _ hn);have h2:4294967296*D*4294967296^j=D*4294967296^(j+1):=by rw [dS];grind
 omega
structure DO (Z D k:Nat)(lq lr:List Nat):Prop where
 wq:Wfb 4294967296 lq
 wr:Wfb 4294967296 lr
 v:nb 4294967296 lq*D+nb 4294967296 lr=Z
 lt:nb 4294967296 lr<D*4294967296^k
 z:∀i,i<k→lq.getD i 0=0
structure DI (Z D j:Nat)(lq lr:List Nat):Prop where
 wq:Wfb 4294967296 lq
 wr:Wfb 4294967296 lr
 v:nb 4294967296 lq*D+nb 4294967296 lr=Z
 lt:lq.getD j 0*(D*4294967296^j)+nb 4294967296 lr<D*4294967296^(j+1)
 z:∀i,i<j→lq.getD i 0=0
theorem a0R (k i:Nat):(dF k 0).getD i 0=0:=by
 rw [bL];by_cases h:i<k
 ·rw [List.getElem?_replicate_of_lt h];rfl
 rw [jT (by rw [List.length_replicate];omega)];rfl
theorem DO.start (hw:Wfb 4294967296 lr)(hr:nb 4294967296 lr=X*f)(hd:nb 4294967296 ld=Y*f)(hf:1≤f)(hX:X<4294967296^n)(hY:4294967296^(m-1)≤Y)(hm:0<m)(hmn:m≤n):DO (X*f) (nb 4294967296 ld) (n-m+1) (dF (n-m+1) 0) lr:=by
 refine⟨qW _,hw,by rw [xP,hr];omega,?_,fun i _=>a0R _ i⟩;rw [hr,hd];have h1:4294967296^n=4294967296^(m-1)*4294967296^(n-m+1):=by rw [←eS];congr 1;omega
 have h2:4294967296^(m-1)*4294967296^(n-m+1)≤Y*4294967296^(n-m+1):=fC _ hY;rw [uH];exact Nat.mul_lt_mul_of_pos_right i9 hf
theorem DO.enter {D:Nat}(h:DO Z D (j+1) lq lr):DI Z D j lq lr:=⟨h.wq,h.wr,h.v,by rw [h.z j i9,wL,eR];exact h.lt,fun i hi=>h.z i i9⟩
theorem DI.leave {D:Nat}(h:DI Z D j lq lr)(hn:¬D*4294967296^j≤nb 4294967296 lr):DO Z D j lq lr:=⟨h.wq,h.wr,h.v,by omega,h.z⟩
theorem DI.sum {D:Nat}(h:DI Z D j lq lr)(hv:nb 4294967296 l'+n*D*4294967296^j=nb 4294967296 lr):(lq.getD j 0+n)*(D*4294967296^j)+nb 4294967296 l'<D*4294967296^(j+1):=by
 have h1:=h.lt;rw [eE,←cU n];omega
theorem DI.digit {D:Nat}(h:DI Z D j lq lr)(hv:nb 4294967296 l'+n*D*4294967296^j=nb 4294967296 lr):lq.getD j 0+n<4294967296:=by
 have h1:=h.sum hv;refine yB (R:=(lq.getD j 0+n)*D*4294967296^j) (aU _) ?_;rw [cU];omega
theorem DI.step {D:Nat}(h:DI Z D j lq lr)(hj:j<lq.length)(hw:Wfb 4294967296 l')(hv:nb 4294967296 l'+n*D*4294967296^j=nb 4294967296 lr):DI Z D j (lq.set j (lq.getD j 0+n)) l':=by
 refine⟨jJ h.wq _ (hx:=(h.digit hv)),hw,?_,?_,fun i hi=>by rw [getD_set_ne i9,h.z i hi]⟩
 ·have h1:=xQ 4294967296 hj (lq.getD j 0+n);rw [dE] at h1;have h2:nb 4294967296 (lq.set j (lq.getD j 0+n))=nb 4294967296 lq+4294967296^j*n:=by omega
  have o:=h.v;have f:4294967296^j*n*D=n*D*4294967296^j:=by grind
  rw [h2,eE,f];omega
 rw [vS hj];exact h.sum hv
theorem BS {D:Nat}(hn:1≤n)(hD:0<D)(hv:nb 4294967296 l'+n*D*4294967296^j=nb 4294967296 lr):nb 4294967296 l'<nb 4294967296 lr:=by
 have:0<n*D*4294967296^j:=jZ (jZ hn hD) (iI yd);omega
theorem BT {D:Nat}(h:DI Z D j lq lr)(hd:nb 4294967296 ld=D)(hw:Wfb 4294967296 ld)(hv:nb 4294967296 (ld.take k)=nb 4294967296 ld):nb 4294967296 lr<4294967296^(j+k+1):=by
 have h1:=vE hw k;rw [hv,hd] at h1;have h2:=h.lt;have f:D*4294967296^(j+1)≤4294967296^k*4294967296^(j+1):=fC _ (Nat.le_of_lt h1);rw [←eS,show k+(j+1)=j+k+1 by omega] at f;omega
structure DF (f:Nat)(l0:List Nat)(k rest:Nat)(l:List Nat):Prop where
 len:l.length=l0.length
 wf:Wfb 4294967296 l
 rf:rest<f
 v:nb 4294967296 (l0.drop k)=nb 4294967296 (l.drop k)*f+rest
 same:∀i,i<k→l.getD i 0=l0.getD i 0
theorem DF.start (hw:Wfb 4294967296 l0)(hf:1≤f)(hl:l0.length=n):DF f l0 n 0 l0:=⟨rfl,hw,hf,by rw [List.drop_of_length_le i9,B4,wL],fun _ _=>rfl⟩
theorem DF.step {rest:Nat}(h:DF f l0 (j+1) rest l)(hj:j<l0.length)(hd:(rest*4294967296+l.getD j 0)/f<4294967296)(hf:1≤f):DF f l0 j ((rest*4294967296+l.getD j 0)%f) (l.set j ((rest*4294967296+l.getD j 0)/f)):=by
 refine⟨by rw [List.length_set,h.len],jJ h.wf _ (hx:=hd),g7 _ hf,?_,fun i hi=>by rw [getD_set_ne i9,h.same i i9]⟩;rw [lZ hj,lZ (xs:=l.set j _) (k:=j) (by rw [List.length_set,h.len];exact hj),vS (by rw [h.len];exact hj),h.v,←h.same j i9,List.drop_set_of_lt i9];have e:=Nat.div_add_mod (rest*4294967296+l.getD j 0) f;generalize (rest*4294967296+l.getD j 0)/f=Q at*;generalize (rest*4294967296+l.getD j 0)%f=R at*;have o:(Q+4294967296*nb 4294967296 (List.drop (j+1) l))*f=f*Q+4294967296*(nb 4294967296 (List.drop (j+1) l)*f):=by grind
 rw [o];omega
theorem DF.digit {rest:Nat}(h:DF f l0 (j+1) rest l):(rest*4294967296+l.getD j 0)/f<4294967296:=by
 have h1:=jK (b:=4294967296) h.wf j;have h2:=h.rf;rw [Nat.div_lt_iff_lt_mul i9];have o:(rest+1)*4294967296≤f*4294967296:=fC _ h2;rw [dH 4294967296 f];omega
theorem a18 {rest:Nat}(h:DO (X*f) (nb 4294967296 ld) 0 lq lr)(hd:nb 4294967296 ld=Y*f)(hF:DF f lr 0 rest l):nb 4294967296 lq=X/Y∧nb 4294967296 l=X%Y:=by
 have h1:=h.v;have h2:=h.lt;have o:=hF.v;have E:=hF.rf;rw [iN,iN] at o;rw [hd,Nat.pow_zero,eH] at h2;rw [hd] at h1;have e:(nb 4294967296 lq*Y+nb 4294967296 l)*f+rest=X*f:=by rw [eE,cU];omega
 have h0:rest=0:=by
  have:=congrArg (· %f) e
  simp only [Nat.mul_mod_left,Nat.add_comm _ rest,Nat.add_mul_mod_self_right] at this
  rwa [iW E] at this
 rw [h0,fN] at e o;have G:=Nat.eq_of_mul_eq_mul_right (by omega:0<f) e
 have F:nb 4294967296 l<Y:=by
  rw [o] at h2
  exact Nat.lt_of_mul_lt_mul_right h2
 have:=a2p (x:=X) (y:=Y) G F;exact this
theorem WT (hx:Rd w A n cap xs)(hln:n≤274877906944)(hy:Rd w D m cd es)(hlm:m≤274877906944)(hwx:Wfb 4294967296 xs)(hwe:Wfb 4294967296 es)(hxt:n=0∨xs.getD (n-1) 0≠0)(hm0:0<m)(htop:es.getD (m-1) 0≠0):aQ aM 124 #[up A n cap,up D m cd] w (Gv w (T2 (WD (nb 4294967296 xs/nb 4294967296 es)) (WD (nb 4294967296 xs%nb 4294967296 es)))):=by
 have bj:=hx.len;have jc:=hx.rv.le;have bf:=hy.len;have iy:=hy.rv.le;refine bU Tryz.func124 143 J (sr (aE 2 J (aD (aD ?_))));by_cases ib:n<m
 ·refine aK 1 J (aA (no n) J (mv 1 J (aA (no m) J (aH J (dV n m J) (aG (bC J (sr (aE 3 J (bA (cI (aZ [S0,up A n cap] J ⟨rfl,rfl,xl⟩ ?_)))))))))));have eh:=UO hwx bj bf ib htop;refine⟨_,rfl,⟨_,_,rfl,⟨_,_,_,rfl,?_⟩,⟨_,_,_,rfl,?_⟩⟩,bN⟩
  ·rw [jL eh];exact Rd.nil _
  rw [iW eh,G0 hZ hwx (by rw [bj];exact hxt)];exact hx
 refine aK 1 J (aA (no n) J (mv 1 J (aA (no m) J (aH J (dQ n m J) (aG (aT J (bB (aL (aD ?_)))))))));have ja:=jK (b:=4294967296) hwe (m-1);refine bH (aE 1 J (aD (bO ?_)));refine dC (T:=a6×Nat) (fun⟨wr,f⟩=> [(0,up A n cap),(1,up D m cd),(6,t9 f)]) (fun⟨wr,f⟩=>wr) (fun⟨wr,f⟩=>(Ext w wr)∧(1≤f)∧(f≤4294967295)∧(Rd wr A n cap xs)∧(Rd wr D m cd es)) (fun⟨wr,f⟩=>4294967296-f) (⟨w,1⟩:a6×Nat) ⟨bN,yd,yd,hx,hy⟩ J (aP J) ?_;rintro⟨wr,f⟩ ⟨Z,ci,ey,bi,ar⟩;refine fW [(0,up A n cap),(1,up D m cd),(6,t9 f)] wr J (aP J) (aD (aD ?_));have hm:(es.getD (m-1) 0)*f≤4294967295*4294967295:=kP i9 i9;by_cases ix:(es.getD (m-1) 0)*f<2147483648
 ·have jd:1*f≤(es.getD (m-1) 0)*f:=fC _ i9;refine aK 2 J (aA (no m) J (bD J (iU m 1 J) ?_));obtain⟨p1,fz,gf,_⟩:=(ar).at (i:=m-1) i9;refine cA cH bZ (m-1) p1 fz J (bG (d5 dK gf) J (mv 1 J (bD J (lV (es.getD (m-1) 0) f J) (aH J (dV ((es.getD (m-1) 0)*f) 2147483648 J) (aG (bC J (bB (aL (bO (aK 1 J (bD J (lV 2 f J) (mv 1 J ?_))))))))))));refine cF (bT (cP (⟨wr,2*f⟩:a6×Nat) ⟨Z,i9,i9,bi,ar⟩ (show 4294967296-2*f<4294967296-f by omega) J (aP J)))
 refine aK 2 J (aA (no m) J (bD J (iU m 1 J) ?_));obtain⟨p2,fx,fq,_⟩:=(ar).at (i:=m-1) i9;refine cA cH bZ (m-1) p2 fx J (bG (d5 dK fq) J (mv 1 J (bD J (lV (es.getD (m-1) 0) f J) (aH J (dQ ((es.getD (m-1) 0)*f) 2147483648 J) (aG (aT J (d9 (cY (d7 (d8 (aL (aV 1 J ?_))))))))))));refine mv 1 J (bI [up A n cap,t9 f] Z (KH bi i9 hwx ey) J ?_);rintro _ _ ⟨Y,_,rfl,ij,da,ik,fi,ef⟩ e4 U;have bm:w.heap.size≤Y:=a8 Z.size ij;have jq:0<cap→∀a,A=some a→a.block≠Y:=fun hc a ha=>by have:=(bi).rv.blk a ha hc;omega
 have jk:0<cd→∀a,D=some a→a.block≠Y:=fun hc a ha=>by have:=(ar).rv.blk a ha hc;omega
 refine aE 1 J (aV 2 J (bI [up D m cd,t9 f] U (KH (ar.ext e4) i9 hwe ey) J ?_));rintro _ _ ⟨F,E,rfl,ct,az,aa,o,cz⟩ cm ag;have io:w.heap.size≤F:=a8 U.size ct;have je:Y<F:=dA da.lt ct;have iw:0<cap→∀a,A=some a→a.block≠F:=fun hc a ha=>by have:=((bi.ext e4)).rv.blk a ha hc;omega
 have ir:0<cd→∀a,D=some a→a.block≠F:=fun hc a ha=>by have:=((ar.ext e4)).rv.blk a ha hc;omega
 refine aE 1 J (aV 1 J (bI [up (some ⟨F,0,none⟩) (m+1) (m+1)] ag (oP (az.rd0 o.wf aa i9)) J ?_));rintro _ _ ⟨h,rfl,_,_,du⟩ au ba;refine aE 1 J (aD ?_);have hD:=cz;have I:=du 4294967296;have ge:=YZ (b:=4294967296) yd i9 bf htop;have bo:0<nb 4294967296 E:=by rw [hD];exact jZ ge ci
 have dt:0<h:=by refine Nat.pos_of_ne_zero fun e=>?_;rw [e] at I;simp only [List.take_zero,B4] at I;omega
 have fc:=a16 o i9 dt I;have gj:=jK (b:=4294967296) o (h-1);refine aK 1 J (aA (no n) J (mv 1 J (aA (no m) J (bD J (iU n m J) (bD J (cK (n-m) 1 J) (mT J (k:=(n-m)+1) J J J cH j9 J fun G gx av cp cj=>?_))))));rw [kG] at cp;have aw:w.heap.size≤G:=by rw [←av];exact ba.size
 have jh:Y<G:=by rw [←av];exact (da.ext (cm.t au)).lt
 have ji:F<G:=by rw [←av];exact (az.ext au).lt
 have iq:0<cap→∀a,A=some a→a.block≠G:=fun hc a ha=>by have:=((bi.ext (e4.t (cm.t au)))).rv.blk a ha hc;omega
 have iu:0<cd→∀a,D=some a→a.block≠G:=fun hc a ha=>by have:=((ar.ext (e4.t (cm.t au)))).rv.blk a ha hc;omega
 clear av;refine aE 1 J (aV 2 J (aA (no h) J (bD J (iU h 1 J) (cA cH bZ (h-1) ⟨F,h-1,none⟩ (eG _ _) J (bG (jF dK (az.ext (au.t cj)) (by rw [aa];omega)) J (bD J (jC (E.getD (h-1) 0) 1 J) (aE 1 J (aD (aV 1 J ?_)))))))));refine aA (no n) J (mv 1 J (aA (no m) J (bD J (iU n m J) (aE 1 J (bO ?_)))));refine dC (T:=a6×Nat×Int×List Nat×List Nat) (fun⟨wr,k,ii,lq,lr⟩=> [(6,t9 f),(7,up (some ⟨Y,0,none⟩) (n+1) (n+1)),(8,up (some ⟨F,0,none⟩) h (m+1)),(9,up (some ⟨G,0,none⟩) ((n-m)+1) ((n-m)+1)),(10,t9 ((E.getD (h-1) 0)+1:Nat)),(11,no ii)]) (fun⟨wr,k,ii,lq,lr⟩=>wr) (fun⟨wr,k,ii,lq,lr⟩=>(Ext w wr)∧(k≤n-m+1)∧(ii=(k:Int)-1)∧(Bk wr Y 43 (lr.map bF))∧(lr.length=n+1)∧(Bk wr F 43 (E.map bF))∧(Bk wr G 43 (lq.map bF))∧(lq.length=n-m+1)∧(DO (nb 4294967296 xs*f) (nb 4294967296 E) k lq lr)) (fun⟨wr,k,ii,lq,lr⟩=>k) (⟨gx,n-m+1,_,_,_⟩:a6×Nat×Int×List Nat×List Nat) ⟨(ba.trans cj),aU _,i9,(da.ext (cm.t (au.t cj))),ik,(az.ext (au.t cj)),cp,(List.length_replicate (n:=(n-m)+1) (a:=0)),DO.start fi ef hD ci (by have:=qN hwx;rwa [bj] at this) (ER yd i9 bf htop) i9 i9⟩ J (aP J) ?_;rintro⟨wr,k,ii,lq,lr⟩ ⟨Z,hk,fy,H,W,X,V,M,hO⟩;refine fW [(6,t9 f),(7,up (some ⟨Y,0,none⟩) (n+1) (n+1)),(8,up (some ⟨F,0,none⟩) h (m+1)),(9,up (some ⟨G,0,none⟩) ((n-m)+1) ((n-m)+1)),(10,t9 ((E.getD (h-1) 0)+1:Nat)),(11,no ii)] wr J (aP J) (aD (aD ?_));by_cases gb:0<k
 ·obtain⟨j,rfl⟩:∃j,k=j+1:=⟨k-1,by omega⟩;obtain rfl:ii=(j:Int):=by omega
  refine aK 1 J (aH J (i8 j 0 J) (aG (bC J (bB (aL (aD (bO (bO ?_))))))));have hE:=hO.enter;clear hO;refine dC (T:=a6×List Nat×List Nat) (fun⟨wr,lq,lr⟩=> [(6,t9 f),(7,up (some ⟨Y,0,none⟩) (n+1) (n+1)),(8,up (some ⟨F,0,none⟩) h (m+1)),(9,up (some ⟨G,0,none⟩) ((n-m)+1) ((n-m)+1)),(10,t9 ((E.getD (h-1) 0)+1:Nat)),(11,no j)]) (fun⟨wr,lq,lr⟩=>wr) (fun⟨wr,lq,lr⟩=>(Ext w wr)∧(Bk wr Y 43 (lr.map bF))∧(lr.length=n+1)∧(Bk wr F 43 (E.map bF))∧(Bk wr G 43 (lq.map bF))∧(lq.length=n-m+1)∧(DI (nb 4294967296 xs*f) (nb 4294967296 E) j lq lr)) (fun⟨wr,lq,lr⟩=>nb 4294967296 lr) (⟨wr,_,_⟩:a6×List Nat×List Nat) ⟨Z,H,W,X,V,M,hE⟩ J (aP J) ?_;rintro⟨wr,lq,lr⟩ ⟨Z,H,W,X,V,M,hI⟩;refine fW [(6,t9 f),(7,up (some ⟨Y,0,none⟩) (n+1) (n+1)),(8,up (some ⟨F,0,none⟩) h (m+1)),(9,up (some ⟨G,0,none⟩) ((n-m)+1) ((n-m)+1)),(10,t9 ((E.getD (h-1) 0)+1:Nat)),(11,no j)] wr J (aP J) (bO (aD ?_));have ab:=hI.wr;have gk:=jK (b:=4294967296) ab ((j+h)-1);have jo:=jK (b:=4294967296) ab (j+h);by_cases iz:j+h<n+1
  ·have hT:=Z0 (b:=4294967296) (l:=lr) (i:=(j+h)-1) (i':=j+h) i9 i9;refine aK 3 J (aA (no h) J (bD J (cK j h J) (bD J (iU (j+h) 1 J) (cA cH bZ ((j+h)-1) ⟨Y,(j+h)-1,none⟩ (eG _ _) J (bG (jF dK H (by rw [W];omega)) J (aE 1 J (aD (aV 2 J (aA (no h) J (bD J (cK j h J) ?_))))))))));refine mv 1 J (aA (no ((n+1):Nat)) J (aH J (dV (j+h) (n+1) J) (aG (bC J (aK 4 J (aA (no h) J (bD J (cK j h J) (cA cH bZ (j+h) ⟨Y,j+h,none⟩ (eG _ _) J (bG (jF dK H (by rw [W];omega)) J (bD J (lV (lr.getD (j+h) 0) 4294967296 J) (bD J (jC (lr.getD ((j+h)-1) 0) ((lr.getD (j+h) 0)*4294967296) J) (mv 1 J ?_))))))))))));refine aG (aD ?_);have am:=P7 fc dt hT;have aq:nb 4294967296 lr<nb 4294967296 E*4294967296^(j+1):=lS (Nat.le_add_left _ _) hI.lt;by_cases dm:((lr.getD ((j+h)-1) 0)+((lr.getD (j+h) 0)*4294967296))/((E.getD (h-1) 0)+1)=0
   ·by_cases ai:nb 4294967296 E*4294967296^j≤nb 4294967296 lr
    ·have ao:1*nb 4294967296 E*4294967296^j≤nb 4294967296 lr:=by rw [Nat.one_mul];exact ai
     refine aK 2 J (bD J (kU ((lr.getD ((j+h)-1) 0)+((lr.getD (j+h) 0)*4294967296)) ((E.getD (h-1) 0)+1) J) (aE 1 J (aD (aV 1 J (aH J (gZ (((lr.getD ((j+h)-1) 0)+((lr.getD (j+h) 0)*4294967296))/((E.getD (h-1) 0)+1)) 0 J) (aG (bC J (aV 3 J (bI [up (some ⟨Y,0,none⟩) (n+1) (n+1),up (some ⟨F,0,none⟩) h (m+1),no j] Z (AK (b:=true) (H.rd0 ab.wf W i9) ((X.rd0 o.wf aa i9).take (k:=h) i9 i9 (aU _)) ab (lH o _) (BT hI J o I) (by rw [I,decide_eq_true ai])) J ?_)))))))));rintro _ _ rfl bg U;refine aE 1 J (aD (aV 1 J (aA (wk) J (aG (aT J (bB (aL (bH (aE 1 J (aD ?_))))))))));refine aK 4 J ?_;have ah:=yB ao aq;refine dP [up (some ⟨Y,0,none⟩) (n+1) (n+1),up (some ⟨F,0,none⟩) h (m+1),t9 1,no j] (xG (q:=1) (s:=j) (H.ext bg) W ab (((X.ext bg).rd0 o.wf aa i9).take (k:=h) i9 i9 (aU _)) (lH o _) (fun _ a ha=>by cases ha;show F≠Y;omega) ah (by rw [I];exact ao)) J ?_;rintro _ _ ⟨rfl,bu,l3,fj,ei,ae,L⟩;rw [I] at L;refine dO ?_;have cv:=hI.digit L;have ag:=bu.ext U bm;refine aG (aK 4 J (cA cH bZ j ⟨G,j,none⟩ (eG _ _) J (bG (jF dK ((V.ext bg).vN bu) (by rw [M];omega)) J (mv 1 J (bD J (jC (lq.getD j 0) 1 J) (cA cH bZ j ⟨G,j,none⟩ (eG _ _) J ?_))))));refine i0 J J J bZ J ((V.ext bg).vN bu) (iQ (by rw [M];omega)) J ((lq.set j ((lq.getD j 0)+1)).map bF) (eM _ _ _) fun go en dh _=>?_;have ba:=dh.ext ag aw;refine cF (bT (cP (⟨go,_,_⟩:a6×List Nat×List Nat) ⟨ba,(fj.vN dh),ei,(((X.ext bg).vN bu).vN dh),en,(jQ (l:=lq) (M)),hI.step i9 ae L⟩ (BS (aU 1) bo L) J (aP J)))
    refine aK 2 J (bD J (kU ((lr.getD ((j+h)-1) 0)+((lr.getD (j+h) 0)*4294967296)) ((E.getD (h-1) 0)+1) J) (aE 1 J (aD (aV 1 J (aH J (gZ (((lr.getD ((j+h)-1) 0)+((lr.getD (j+h) 0)*4294967296))/((E.getD (h-1) 0)+1)) 0 J) (aG (bC J (aV 3 J (bI [up (some ⟨Y,0,none⟩) (n+1) (n+1),up (some ⟨F,0,none⟩) h (m+1),no j] Z (AK (b:=false) (H.rd0 ab.wf W i9) ((X.rd0 o.wf aa i9).take (k:=h) i9 i9 (aU _)) ab (lH o _) (BT hI J o I) (by rw [I,decide_eq_false ai])) J ?_)))))))));rintro _ fw rfl mK U;refine aE 1 J (aD (aV 1 J (aA (we) J (aG (bC J (d9 (cY (cY (BQ (d7 (d8 ?_)))))))))));refine bT (aL (aK 1 J (eC J J J (((j:Nat):Int)-1) (fS J) (bS 1 J (cP (⟨fw,j,_,_,_⟩:a6×Nat×Int×List Nat×List Nat) ⟨U,i9,i9,(H.ext mK),W,(X.ext mK),(V.ext mK),M,hI.leave ai⟩ (show j<j+1 by omega) J (aP J))))))
   refine aK 2 J (bD J (kU ((lr.getD ((j+h)-1) 0)+((lr.getD (j+h) 0)*4294967296)) ((E.getD (h-1) 0)+1) J) (aE 1 J (aD (aV 1 J (aH J (hJ (((lr.getD ((j+h)-1) 0)+((lr.getD (j+h) 0)*4294967296))/((E.getD (h-1) 0)+1)) 0 J) (aG (aT J (bB (aL (aD ?_))))))))));refine aK 4 J ?_;have ah:=yB am aq;refine dP [up (some ⟨Y,0,none⟩) (n+1) (n+1),up (some ⟨F,0,none⟩) h (m+1),t9 ((((lr.getD ((j+h)-1) 0)+((lr.getD (j+h) 0)*4294967296))/((E.getD (h-1) 0)+1):Nat):Int),no j] (xG (q:=((lr.getD ((j+h)-1) 0)+((lr.getD (j+h) 0)*4294967296))/((E.getD (h-1) 0)+1)) (s:=j) H W ab ((X.rd0 o.wf aa i9).take (k:=h) i9 i9 (aU _)) (lH o _) (fun _ a ha=>by cases ha;show F≠Y;omega) ah (by rw [I];exact am)) J ?_;rintro _ _ ⟨rfl,bw,l3,fh,fg,ae,L⟩;rw [I] at L;refine dO ?_;have cv:=hI.digit L;have U:=bw.ext Z bm;refine aG (aK 4 J (cA cH bZ j ⟨G,j,none⟩ (eG _ _) J (bG (jF dK (V.vN bw) (by rw [M];omega)) J (mv 1 J (bD J (jC (lq.getD j 0) (((lr.getD ((j+h)-1) 0)+((lr.getD (j+h) 0)*4294967296))/((E.getD (h-1) 0)+1)) J) (cA cH bZ j ⟨G,j,none⟩ (eG _ _) J ?_))))));refine i0 J J J bZ J (V.vN bw) (iQ (by rw [M];omega)) J ((lq.set j ((lq.getD j 0)+(((lr.getD ((j+h)-1) 0)+((lr.getD (j+h) 0)*4294967296))/((E.getD (h-1) 0)+1)))).map bF) (eM _ _ _) fun fv ej dl _=>?_;have ag:=dl.ext U aw;refine cF (bT (cP (⟨fv,_,_⟩:a6×List Nat×List Nat) ⟨ag,(fh.vN dl),fg,((X.vN bw).vN dl),ej,(jQ (l:=lq) (M)),hI.step i9 ae L⟩ (BS (Nat.pos_of_ne_zero dm) bo L) J (aP J)))
  have hT:=MA (b:=4294967296) (l:=lr) (i:=(j+h)-1) i9;refine aK 3 J (aA (no h) J (bD J (cK j h J) (bD J (iU (j+h) 1 J) (cA cH bZ ((j+h)-1) ⟨Y,(j+h)-1,none⟩ (eG _ _) J (bG (jF dK H (by rw [W];omega)) J (aE 1 J (aD (aV 2 J (aA (no h) J (bD J (cK j h J) ?_))))))))));refine mv 1 J (aA (no ((n+1):Nat)) J (aH J (dQ (j+h) (n+1) J) (aG (aT J (bB (aL (aD ?_)))))));have am:=P7 fc dt hT;have aq:nb 4294967296 lr<nb 4294967296 E*4294967296^(j+1):=lS (Nat.le_add_left _ _) hI.lt;by_cases dm:(lr.getD ((j+h)-1) 0)/((E.getD (h-1) 0)+1)=0
  ·by_cases ai:nb 4294967296 E*4294967296^j≤nb 4294967296 lr
   ·have ao:1*nb 4294967296 E*4294967296^j≤nb 4294967296 lr:=by rw [Nat.one_mul];exact ai
    refine aK 2 J (bD J (kU (lr.getD ((j+h)-1) 0) ((E.getD (h-1) 0)+1) J) (aE 1 J (aD (aV 1 J (aH J (gZ ((lr.getD ((j+h)-1) 0)/((E.getD (h-1) 0)+1)) 0 J) (aG (bC J (aV 3 J (bI [up (some ⟨Y,0,none⟩) (n+1) (n+1),up (some ⟨F,0,none⟩) h (m+1),no j] Z (AK (b:=true) (H.rd0 ab.wf W i9) ((X.rd0 o.wf aa i9).take (k:=h) i9 i9 (aU _)) ab (lH o _) (BT hI J o I) (by rw [I,decide_eq_true ai])) J ?_)))))))));rintro _ _ rfl bd U;refine aE 1 J (aD (aV 1 J (aA (wk) J (aG (aT J (bB (aL (bH (aE 1 J (aD ?_))))))))));refine aK 4 J ?_;have ah:=yB ao aq;refine dP [up (some ⟨Y,0,none⟩) (n+1) (n+1),up (some ⟨F,0,none⟩) h (m+1),t9 1,no j] (xG (q:=1) (s:=j) (H.ext bd) W ab (((X.ext bd).rd0 o.wf aa i9).take (k:=h) i9 i9 (aU _)) (lH o _) (fun _ a ha=>by cases ha;show F≠Y;omega) ah (by rw [I];exact ao)) J ?_;rintro _ _ ⟨rfl,bp,l3,ew,dz,ae,L⟩;rw [I] at L;refine dO ?_;have cv:=hI.digit L;have ag:=bp.ext U bm;refine aG (aK 4 J (cA cH bZ j ⟨G,j,none⟩ (eG _ _) J (bG (jF dK ((V.ext bd).vN bp) (by rw [M];omega)) J (mv 1 J (bD J (jC (lq.getD j 0) 1 J) (cA cH bZ j ⟨G,j,none⟩ (eG _ _) J ?_))))));refine i0 J J J bZ J ((V.ext bd).vN bp) (iQ (by rw [M];omega)) J ((lq.set j ((lq.getD j 0)+1)).map bF) (eM _ _ _) fun il eg dg _=>?_;have ba:=dg.ext ag aw;refine cF (bT (cP (⟨il,_,_⟩:a6×List Nat×List Nat) ⟨ba,(ew.vN dg),dz,(((X.ext bd).vN bp).vN dg),eg,(jQ (l:=lq) (M)),hI.step i9 ae L⟩ (BS (aU 1) bo L) J (aP J)))
   refine aK 2 J (bD J (kU (lr.getD ((j+h)-1) 0) ((E.getD (h-1) 0)+1) J) (aE 1 J (aD (aV 1 J (aH J (gZ ((lr.getD ((j+h)-1) 0)/((E.getD (h-1) 0)+1)) 0 J) (aG (bC J (aV 3 J (bI [up (some ⟨Y,0,none⟩) (n+1) (n+1),up (some ⟨F,0,none⟩) h (m+1),no j] Z (AK (b:=false) (H.rd0 ab.wf W i9) ((X.rd0 o.wf aa i9).take (k:=h) i9 i9 (aU _)) ab (lH o _) (BT hI J o I) (by rw [I,decide_eq_false ai])) J ?_)))))))));rintro _ ie rfl kD U;refine aE 1 J (aD (aV 1 J (aA (we) J (aG (bC J (d9 (cY (cY (BQ (d7 (d8 ?_)))))))))));refine bT (aL (aK 1 J (eC J J J (((j:Nat):Int)-1) (fS J) (bS 1 J (cP (⟨ie,j,_,_,_⟩:a6×Nat×Int×List Nat×List Nat) ⟨U,i9,i9,(H.ext kD),W,(X.ext kD),(V.ext kD),M,hI.leave ai⟩ (show j<j+1 by omega) J (aP J))))))
  refine aK 2 J (bD J (kU (lr.getD ((j+h)-1) 0) ((E.getD (h-1) 0)+1) J) (aE 1 J (aD (aV 1 J (aH J (hJ ((lr.getD ((j+h)-1) 0)/((E.getD (h-1) 0)+1)) 0 J) (aG (aT J (bB (aL (aD ?_))))))))));refine aK 4 J ?_;have ah:=yB am aq;refine dP [up (some ⟨Y,0,none⟩) (n+1) (n+1),up (some ⟨F,0,none⟩) h (m+1),t9 (((lr.getD ((j+h)-1) 0)/((E.getD (h-1) 0)+1):Nat):Int),no j] (xG (q:=(lr.getD ((j+h)-1) 0)/((E.getD (h-1) 0)+1)) (s:=j) H W ab ((X.rd0 o.wf aa i9).take (k:=h) i9 i9 (aU _)) (lH o _) (fun _ a ha=>by cases ha;show F≠Y;omega) ah (by rw [I];exact am)) J ?_;rintro _ _ ⟨rfl,br,l3,fd,fo,ae,L⟩;rw [I] at L;refine dO ?_;have cv:=hI.digit L;have U:=br.ext Z bm;refine aG (aK 4 J (cA cH bZ j ⟨G,j,none⟩ (eG _ _) J (bG (jF dK (V.vN br) (by rw [M];omega)) J (mv 1 J (bD J (jC (lq.getD j 0) ((lr.getD ((j+h)-1) 0)/((E.getD (h-1) 0)+1)) J) (cA cH bZ j ⟨G,j,none⟩ (eG _ _) J ?_))))));refine i0 J J J bZ J (V.vN br) (iQ (by rw [M];omega)) J ((lq.set j ((lq.getD j 0)+((lr.getD ((j+h)-1) 0)/((E.getD (h-1) 0)+1)))).map bF) (eM _ _ _) fun ga em dr _=>?_;have ag:=dr.ext U aw;refine cF (bT (cP (⟨ga,_,_⟩:a6×List Nat×List Nat) ⟨ag,(fd.vN dr),fo,((X.vN br).vN dr),em,(jQ (l:=lq) (M)),hI.step i9 ae L⟩ (BS (Nat.pos_of_ne_zero dm) bo L) J (aP J)))
 obtain rfl:k=0:=by omega
 refine aK 1 J (aH J (mJ) (aG (aT J (d9 (cY (d7 (d8 (aL (sr (aE 1 J (aD ?_)))))))))));refine aV 1 J (aA (no ((n+1):Nat)) J (bD J (iU (n+1) 1 J) (aE 1 J (bO ?_))));refine dC (T:=a6×Nat×Int×Nat×List Nat) (fun⟨wr,k,ii,rest,l⟩=> [(6,t9 f),(7,up (some ⟨Y,0,none⟩) (n+1) (n+1)),(9,up (some ⟨G,0,none⟩) ((n-m)+1) ((n-m)+1)),(15,t9 rest),(16,no ii)]) (fun⟨wr,k,ii,rest,l⟩=>wr) (fun⟨wr,k,ii,rest,l⟩=>(Ext w wr)∧(k≤n+1)∧(ii=(k:Int)-1)∧(Bk wr Y 43 (l.map bF))∧(Bk wr G 43 (lq.map bF))∧(DF f lr k rest l)) (fun⟨wr,k,ii,rest,l⟩=>k) (⟨wr,n+1,_,0,lr⟩:a6×Nat×Int×Nat×List Nat) ⟨Z,aU _,i9,H,V,DF.start hO.wr ci W⟩ J (aP J) ?_;rintro⟨wr,k,ii,rest,l⟩ ⟨Z,hk,fy,H,V,hF⟩;refine fW [(6,t9 f),(7,up (some ⟨Y,0,none⟩) (n+1) (n+1)),(9,up (some ⟨G,0,none⟩) ((n-m)+1) ((n-m)+1)),(15,t9 rest),(16,no ii)] wr J (aP J) ?_;have bh:=hF.len;rw [W] at bh;refine aD (aD ?_);by_cases gb:0<k
 ·obtain⟨j,rfl⟩:∃j,k=j+1:=⟨k-1,by omega⟩;obtain rfl:ii=(j:Int):=by omega
  refine aK 1 J (aH J (i8 j 0 J) (aG (bC J (bB (aL (aD (bO (aD ?_))))))));have dy:=hF.digit;have gk:=jK (b:=4294967296) hF.wf j;have jj:=hF.rf;refine aK 1 J (bD J (lV rest 4294967296 J) (mv 2 J (cA cH bZ j ⟨Y,j,none⟩ (eG _ _) J (bG (jF dK H (by rw [bh];omega)) J (bD J (jC (rest*4294967296) (l.getD j 0) J) (aE 1 J (aV 4 J (bD J (kU ((rest*4294967296)+(l.getD j 0)) f J) (cA cH bZ j ⟨Y,j,none⟩ (eG _ _) J ?_)))))))));have fe:=H;refine i0 J J J bZ J fe (iQ (by rw [bh];omega)) J ((l.set j (((rest*4294967296)+(l.getD j 0))/f)).map bF) (eM _ _ _) fun ig dw fm _=>?_;have U:=fm.ext Z bm;refine aG (aK 2 J (bD J (kT ((rest*4294967296)+(l.getD j 0)) f J) (bS 1 J (bT (aL (aK 1 J (eC J J J (((j:Nat):Int)-1) (fS J) (bS 1 J (cP (⟨ig,j,_,_,_⟩:a6×Nat×Int×Nat×List Nat) ⟨U,i9,rfl,dw,(V.vN fm),hF.step i9 dy ci⟩ (show j<j+1 by omega) J (aP J))))))))))
 obtain rfl:k=0:=by omega
 refine aK 1 J (aH J (mJ) (aG (aT J (d9 (cY (d7 (d8 (aL (aV 1 J (bI [up (some ⟨G,0,none⟩) ((n-m)+1) ((n-m)+1)] Z (oP (V.rd0 hO.wq.wf M i9)) J ?_))))))))));rintro _ _ ⟨ft,rfl,fa,el,fb⟩ df U;refine mv 1 J (bI [up (some ⟨Y,0,none⟩) (n+1) (n+1)] U (oP ((H.ext df).rd0 hF.wf.wf bh i9)) J ?_);rintro _ _ ⟨ia,rfl,fk,fp,ee⟩ dx ag;refine aE 2 J (bA (aZ [up (some ⟨G,0,none⟩) ft ((n-m)+1),up (some ⟨Y,0,none⟩) ia (n+1)] J ⟨rfl,rfl,xl⟩ ?_));obtain⟨e1,e2⟩:=a18 hO hD hF;refine⟨_,rfl,⟨_,_,rfl,⟨_,_,_,rfl,?_⟩,⟨_,_,_,rfl,?_⟩⟩,ag⟩
 ·rw [←e1];exact ((V.ext (df.t dx)).rd0 hO.wq.wf M i9).trim hO.wq fa el fb
 rw [←e2];exact ((H.ext (df.t dx)).rd0 hF.wf.wf bh i9).trim hF.wf fk fp ee
theorem E7 (hb:b≤w.heap.size)(hx:Rd w A n cap (db 4294967296 m))(hln:n≤1099511627776:=by omega):aQ aM 125 #[up A n cap] w (Gv w (WR b m)):=by
 have h:=E8 hx hln (lQ hZ _);rw [iS hZ] at h;exact h.mono (Gv.imp (WR.imp hb))
theorem KJ (hx:Rd w A n cap (db 4294967296 X))(hln:n≤274877906944)(hy:Rd w D m cd (db 4294967296 Y))(hlm:m≤274877906944)(hY:Y≠0):aQ aM 124 #[up A n cap,up D m cd] w (Gv w (T2 (WD (X/Y)) (WD (X%Y)))):=by
 have hl:=hx.len;have f:=hy.len;have h1:=BX hZ X;have h2:=BX hZ Y;rw [hl] at h1;rw [f] at h2
 have hm:0<m:=by
  refine Nat.pos_of_ne_zero fun e=>hY ?_
  rw [←tN hZ (n:=Y),f,e]
 have h:=WT hx hln hy hlm (lQ hZ _) (lQ hZ _) h1 hm i9;rw [iS hZ,iS hZ] at h;exact h
theorem a0h (h:Wf xs):(db 4294967296 (nv xs)).length≤2*xs.length:=by
 refine lY hZ ?_;have:=kH h;rwa [yM,←Nat.pow_mul] at this
theorem Rd.hl {n0 c0:Nat}(h:Rd w A k c (db 4294967296 m))(hx:Rd w0 A0 n0 c0 xs)(hm:m≤nv xs):k≤2*n0:=by
 have h1:=h.len;have h2:=a0h hx.wf;rw [hx.len] at h2;have f:=vO hZ hm;omega
theorem WX (hx:Rd w A n cap xs)(hln:n≤137438953472)(hy:Rd w D m cd ys)(hlm:m≤137438953472)(hy0:nv ys≠0):aQ aM 127 #[up A n cap,up D m cd] w (Gv w (T3 (WR w.heap.size (nv xs/nv ys)) (WR w.heap.size (nv xs%nv ys)) (Is (no 0)))):=by
 refine bU Tryz.func127 28 J (sr (aE 3 J (aV 1 J (bI [up D m cd] bN (v8 hy) J ?_))));rintro _ _ ⟨A4,V,c4,rfl,o⟩ e2 ao;refine aE 1 J (aD (aD ?_));have bf:=o.hl hy (aU _);have am:=o.len;have az:V≠0:=fun e=>hy0 (by rw [←tN hZ (n:=nv ys),am,e]);refine aK 1 J (aA (no V) J (aH J (hJ V 0 J) (aG (aT J (bB (aL (aV 1 J (bI [up A n cap] ao (v8 (hx.ext e2)) J ?_))))))));rintro _ _ ⟨A8,n8,c8,rfl,fT⟩ e6 aj;refine aE 1 J (aD ?_);have aw:=fT.hl hx (aU _);refine aK 2 J (bI [up A8 n8 c8,up A4 V c4] aj (KJ fT i9 (o.ext e6) i9 hy0) J ?_);rintro _ _ ⟨_,_,rfl,⟨L,E,F,rfl,h⟩,⟨I,H,M,rfl,f⟩⟩ _ G;refine mv 1 J (aA (up L E F) J (aA (up I H M) J (aE 2 J (aD ?_))));have av:=h.hl hx (gN _ _);have au:=f.hl hx (Nat.mod_le _ _);refine aK 1 J (bI [up L E F] G (E7 G.size h) J ?_);rintro _ _ ⟨aq,ak,ag,rfl,W,Z⟩ ar U;refine mv 1 J (bI [up I H M] U (E7 U.size (f.ext ar)) J ?_);rintro _ _ ⟨aa,ai,ah,rfl,ab,X⟩ Y ae;refine aE 3 J (bA (aZ [up aq ak ag,up aa ai ah,I0] J ⟨rfl,rfl,rfl,xl⟩ ?_));exact⟨_,rfl,⟨_,_,_,rfl,⟨_,_,_,rfl,W,(Z.ext Y)⟩,⟨_,_,_,rfl,ab,X⟩,rfl⟩,ae⟩
theorem WY {xs:List Nat}(hy:Rd w D m cd ys)(hlm:m≤137438953472)(hy0:nv ys=0):aQ aM 127 #[up A n cap,up D m cd] w (Gv w (Is (.tuple #[up none 0 0,up none 0 0,no 4]))):=by
 refine bU Tryz.func127 28 J (sr (aE 3 J (aV 1 J (bI [up D m cd] bN (v8 hy) J ?_))));rintro _ _ ⟨_,E,_,rfl,h⟩ _ o;refine aE 1 J (aD (aD ?_));have F:=h.hl hy (aU _);have f:=h.len;rw [hy0,lC] at f;simp only [List.length_nil] at f;refine aK 1 J (aA (no E) J (aH J (gZ E 0 J) (aG (bC J (sr (aE 3 J (bA (cI (aZ [S0,S0,no 4] J ⟨rfl,rfl,rfl,xl⟩ ?_)))))))));exact⟨_,rfl,rfl,o⟩
theorem Zi.sg {s:Bool}(h:Zi w s A n cap z):Go.Proofs.YtkkabncicmhjfaaGreatDoor.sg s z.natAbs=z:=by
 obtain⟨xs,_,rfl⟩:=h;rw [mY]
theorem ZZ (h:ln x=0):x=0:=by
 have:=oA.1 (show (wd x.natAbs).length=0 from h);omega
theorem kC (s:Bool)(m:Nat):ln (sg s m)=(wd m).length:=by unfold ln;rw [mY]
theorem AA (h:x<y):bM x y= -1:=by unfold bM;rw [if_pos h]
theorem zY (h:y<x):bM x y=1:=by unfold bM;rw [if_neg i9,if_neg i9]
theorem V3 (h:x=y):bM x y=0:=mA.2 h
theorem V7 (h:bM x 0<bM y 0):bM x y= -1:=AA (by unfold bM at h;split at h <;> split at h <;> (try split at h) <;> omega)
theorem V8 (h:bM y 0<bM x 0):bM x y=1:=zY (by unfold bM at h;split at h <;> split at h <;> (try split at h) <;> omega)
theorem V4 (h:bM x 0=bM y 0):bM x 0*fA (Int.natAbs x) (Int.natAbs y)=bM x y:=by
 rcases Int.lt_trichotomy x 0 with hx | hx | hx
 ·have f:y<0:=tA.1 (by rw [←h,AA hx];decide);rw [AA hx];unfold bM fA;by_cases h1:x<y
  ·rw [if_neg i9,if_neg i9,if_pos h1];rfl
  by_cases h2:x=y
  ·rw [if_neg i9,if_pos i9,if_neg h1,if_pos h2];rfl
  rw [if_pos i9,if_neg h1,if_neg h2];rfl
 ·subst hx;have f:y=0:=mA.1 (by rw [←h];rfl);subst f;rfl
 have f:0<y:=t8.1 (by rw [←h,zY hx];decide);rw [zY hx,Int.one_mul];unfold bM fA;by_cases h1:x<y
 ·rw [if_pos i9,if_pos h1]
 by_cases h2:x=y
 ·rw [if_neg i9,if_pos i9,if_neg h1,if_pos h2]
 rw [if_neg i9,if_neg i9,if_neg h1,if_neg h2]
theorem PP {x y:Nat}(h:y≤x):cQ .geq (fA x y) 0=some true:=by
 have e:¬fA x y<0:=fun e=>by have:=nH.1 e;omega
 exact tR
theorem PQ {x y:Nat}(h:¬y≤x):cQ .geq (fA x y) 0=some false:=by
 have e:=nH.2 (show x<y by omega);exact mJ
section
variable {w:a6}{A B:Option a7}{n cap m cap' i j:Nat}
theorem a1e (hb:b≤w.heap.size)(hx:Wi w A n cap i)(hl:n≤68719476735):aQ aM 126 #[up A n cap] w (Gv w (WR b i)):=by
 obtain⟨xs,h1,rfl⟩:=hx;exact (X4 h1 i9).mono (gw hb)
theorem OP (hb:b≤w.heap.size)(hx:Wi w A n cap i)(hl:n≤68719476735)(hy:Wi w B m cap' j)(hl':m≤68719476735):aQ aM 100 #[up A n cap,up B m cap'] w (Gv w (WR b (i+j))):=by
 obtain⟨xs,h1,rfl⟩:=hx;obtain⟨ys,h2,rfl⟩:=hy;exact (X6 h1 i9 h2 i9).mono (gw hb)
theorem y9 (hx:Wi w A n cap i)(hl:n≤68719476735)(hy:Wi w B m cap' j)(hl':m≤68719476735):aQ aM 101 #[up A n cap,up B m cap'] w (Gv w (Is (no (fA i j)))):=by
 obtain⟨xs,h1,rfl⟩:=hx;obtain⟨ys,h2,rfl⟩:=hy;exact (X5 h1 i9 h2 i9).mono O6
theorem BM (hb:b≤w.heap.size)(hx:Wi w A n cap i)(hl:n≤68719476735)(hy:Wi w B m cap' j)(hl':m≤68719476735)(hij:j≤i):aQ aM 102 #[up A n cap,up B m cap'] w (Gv w (T2 (WR b (i-j)) (Is (no 0)))):=by
 obtain⟨xs,h1,rfl⟩:=hx;obtain⟨ys,h2,rfl⟩:=hy;exact (X3 h1 i9 h2 i9 hij).mono (Gv.imp (T2.imp (WR.imp hb) Is.imp))
theorem a1c (hb:b≤w.heap.size)(hx:Wi w A n cap i)(hl:n≤68719476735)(hy:Wi w B m cap' j)(hl':m≤68719476735):aQ aM 98 #[up A n cap,up B m cap'] w (Gv w (WR b (i*j))):=by
 obtain⟨xs,h1,rfl⟩:=hx;obtain⟨ys,h2,rfl⟩:=hy;exact (X2 h1 hl h2 hl').mono (gw hb)
theorem a1b (hb:b≤w.heap.size)(hx:Wi w A n cap i)(hl:n≤68719476735)(hy:Wi w B m cap' j)(hl':m≤68719476735)(h0:j≠0):aQ aM 127 #[up A n cap,up B m cap'] w (Gv w (T3 (WR b (i/j)) (WR b (i%j)) (Is (no 0)))):=by
 obtain⟨xs,h1,rfl⟩:=hx;obtain⟨ys,h2,rfl⟩:=hy;exact (WX h1 i9 h2 i9 h0).mono (Gv.imp (T3.imp (WR.imp hb) (WR.imp hb) Is.imp))
theorem a1a (hy:Wi w B m cap' j)(hl':m≤68719476735)(h0:j=0):aQ aM 127 #[up A n cap,up B m cap'] w (Gv w (Is (.tuple #[up none 0 0,up none 0 0,no 4]))):=by
 obtain⟨ys,h2,rfl⟩:=hy;exact WY (xs:= []) h2 i9 h0
end
theorem l8 {s:Bool}(hb:b≤w.heap.size)(hx:Wi w A n cap m)(hl:n≤68719476735):aQ aM 96 #[.bool s,up A n cap] w (Gv w (ZR b (sg s m))):=by
 refine Calls.mono (R:=Gv w (ZR w.heap.size (sg s m))) ?_ (Gv.imp (ZR.imp hb));refine bU Tryz.func96 16 J (sr (nI [F0,S0] bN J fun _ _ L M _ V=>(aG (aV 1 J (bI [up A n cap] V (a1e V.size (hx.ext V) (aJ hl J)) J ?_)))));rintro _ _ ⟨h,f,o,rfl,Z,o9⟩ e7 U;refine aE 1 J (aD ?_);by_cases hs:s=true
 ·subst hs;by_cases F:m=0
  ·have aa:f=0:=by rw [Z,F,pM];rfl
   refine aK 3 J (aA (no f) J (aH J (pW) (aA (wk) J (mv 1 J (aA (.agg #[F0,up h f o]) J ?_)))));have G:=(L.ext e7);refine so aB G [F0,up h f o] U M J J J J fun _ X ah E=>(aG (bA (aZ [.agg #[F0,up h f o]] J ⟨⟨_,rfl,bK aB X [F0,up h f o] J (bq J) rfl⟩,xl⟩ ?_)));exact⟨_,rfl,⟨_,_,_,_,rfl,((lE (m:=m) (s:=true) (z:=sg true m) (by rw [xB,F];rfl) Z o9 J).updT G ah)⟩,E⟩
  have aa:f≠0:=fun e=>F (oA.1 (by rw [←Z,e]));refine aK 3 J (aA (no f) J (aH J (qQ) (aA (we) J (mv 1 J (aA (O true h f o) J ?_)))));have H:=(L.ext e7);refine so aB H (a5 true h f o) U M J J J J fun _ Y ab E=>(aG (bA (aZ [O true h f o] J ⟨⟨_,rfl,bK aB Y (a5 true h f o) J (bq J) rfl⟩,xl⟩ ?_)));exact⟨_,rfl,⟨_,_,_,_,rfl,((lE (m:=m) (s:=true) (z:=sg true m) (by rw [xB,decide_eq_true (Nat.pos_of_ne_zero F)];rfl) Z o9 J).updT H ab)⟩,E⟩
 replace hs:s=false:=by simpa using hs
 subst hs;refine aK 5 J (aA (wk) J (mv 1 J (aA (.agg #[F0,up h f o]) J ?_)));have I:=(L.ext e7);refine so aB I [F0,up h f o] U M J J J J fun _ W ai E=>(aG (bA (aZ [.agg #[F0,up h f o]] J ⟨⟨_,rfl,bK aB W [F0,up h f o] J (bq J) rfl⟩,xl⟩ ?_)));exact⟨_,rfl,⟨_,_,_,_,rfl,((lE (m:=m) (s:=false) (z:=sg false m) (by rw [xB];rfl) Z o9 J).updT I ai)⟩,E⟩
theorem FL (hb:b≤w.heap.size)(hx:Zi w sa Aa na ca x)(la:na≤17179869183):aQ aM 68 #[O sa Aa na ca] w (Gv w (ZR b (x))):=by
 refine Calls.mono (R:=Gv w (ZR w.heap.size (x))) ?_ (Gv.imp (ZR.imp hb));have Lx:=bP hx la;refine bU Tryz.func68 8 J (sr (bx (a5 sa Aa na ca) bN J J J fun g1 _ h _ _ X=>(bV [F0,S0] X h.lt J fun _ _ Z L _ e8 F=>(aG (sr (pf g1 0 J (bG (cE eW (h.ext e8) J) J (pf g1 1 J (bG (cE dY (h.ext e8) J) J ?_)))))))));have ae:ln (sg sa (Int.natAbs x))≤17179869183:=by rw [kC];exact Lx
 refine bI (a5 sa Aa na ca) F (l8 F.size (hx.ext F).wi (aJ la J)) J ?_;rintro _ _ ⟨o,H,E,G,rfl,Y⟩ M V;have f:=(Z.ext M);refine so aB f (a5 o H E G) V L J J J J fun _ I U W=>(aG (bA (aZ [O o H E G] J ⟨⟨_,rfl,bK aB I (a5 o H E G) J (bq J) rfl⟩,xl⟩ ?_)));exact⟨_,rfl,⟨_,_,_,_,rfl,((Y.updT f U)).cast (hx.sg)⟩,W⟩
theorem OM (hb:b≤w.heap.size)(hx:Zi w sa Aa na ca x)(la:na≤17179869183):aQ aM 103 #[O sa Aa na ca] w (Gv w (ZR b ((Int.natAbs x:Int)))):=by
 refine Calls.mono (R:=Gv w (ZR w.heap.size ((Int.natAbs x:Int)))) ?_ (Gv.imp (ZR.imp hb));have Lx:=bP hx la;refine bU Tryz.func103 6 J (sr (bx (a5 sa Aa na ca) bN J J J fun g1 _ H _ _ X=>(bV [F0,S0] X H.lt J fun _ _ Z L _ e8 E=>(aG (sr (pf g1 1 J (bG (cE dY (H.ext e8) J) J ?_)))))));have ab:ln (sg false (Int.natAbs x))≤17179869183:=by rw [kC];exact Lx
 refine bI [F0,up Aa na ca] E (l8 E.size (hx.ext E).wi (aJ la J)) J ?_;rintro _ _ ⟨h,G,o,F,rfl,Y⟩ M V;have f:=(Z.ext M);refine so aB f (a5 h G o F) V L J J J J fun _ I U W=>(aG (bA (aZ [O h G o F] J ⟨⟨_,rfl,bK aB I (a5 h G o F) J (bq J) rfl⟩,xl⟩ ?_)));exact⟨_,rfl,⟨_,_,_,_,rfl,((Y.updT f U)).cast (J)⟩,W⟩
theorem gR (hx:Zi w sa Aa na ca x)(la:na≤17179869183):aQ aM 54 #[O sa Aa na ca] w (Gv w (Is (no (bM x 0)))):=by
 have Lx:=bP hx la;refine bU Tryz.func54 12 J (sr (bx (a5 sa Aa na ca) bN J J J fun _ _ U _ _ L=>(aE 1 J (sr (lo aB U (a5 sa Aa na ca) J J J (aX L (FL L.size (hx.ext L) (aJ la J)) J ?_))))));rintro _ _ ⟨s9,A9,M,c9,rfl,z9⟩ e7 Y;refine bV [F0,S0] Y (U.ext e7).lt J fun o _ h V _ H Z=>(so aB h (a5 s9 A9 M c9) Z V J J J J fun _ f E I=>(aG (aD (aD ?_))));by_cases F:x<0
 ·obtain rfl:s9=true:=by rw [(((z9.ext H).updT h E)).sgn];exact decide_eq_true F
  refine bH (pf o 0 J (bG (cE eW f J) J (aG (bC J (sr (aE 1 J (bA (cI (aZ [no (-1)] J ⟨rfl,xl⟩ ?_)))))))));exact⟨_,rfl,(show (no (-1):aF)=eL .i64 (bM x 0) by rw [AA F]),I⟩
 obtain rfl:s9=false:=by rw [(((z9.ext H).updT h E)).sgn];exact decide_eq_false F
 have W:M=ln x:=(((z9.ext H).updT h E)).len;by_cases G:x=0
 ·have X:M=0:=by rw [W,G];rfl
  refine bH (pf o 0 J (bG (cE eW f J) J (aG (aT J (bB (aL (aD (sr (pf o 1 J (bG (cE dY f J) J (aA (no M) J (aH J (pW) (cF ?_)))))))))))));refine aL (aT J (bB (aL (sr (aE 1 J (bA (aZ [I0] J ⟨rfl,xl⟩ ?_)))))));exact⟨_,rfl,(show (no 0:aF)=eL .i64 (bM x 0) by rw [V3 G]),I⟩
 have X:M≠0:=fun e=>G (ZZ (by rw [←W,e]));refine bH (pf o 0 J (bG (cE eW f J) J (aG (aT J (bB (aL (aD (sr (pf o 1 J (bG (cE dY f J) J (aA (no M) J (aH J (qQ) (cF ?_)))))))))))));refine aL (bC J (sr (aE 1 J (bA (cI (aZ [no 1] J ⟨rfl,xl⟩ ?_))))));exact⟨_,rfl,(show (no 1:aF)=eL .i64 (bM x 0) by rw [zY i9]),I⟩
theorem a08 {nb:Nat}(hx:Zi w sa Aa na ca x)(la:na≤17179869183)(hy:Zi w sb Ab nb cb y)(lb:nb≤17179869183):aQ aM 99 #[O sa Aa na ca,O sb Ab nb cb] w (Gv w (Is (no (fA (Int.natAbs x) (Int.natAbs y))))):=by
 have Lx:=bP hx la;have Ly:=bP hy lb;refine bU Tryz.func99 10 J (sr (bx (a5 sa Aa na ca) bN J J J fun H _ h _ _ E=>(fY (a5 sb Ab nb cb) E h.lt J J J fun I _ F _ _ G f=>(aE 1 J (sr (pf H 1 J (bG (cE dY (h.ext G) J) J (pf I 1 J (bG (cE dY F J) J (bI [up Aa na ca,up Ab nb cb] f (y9 (hx.ext f).wi (aJ la J) (hy.ext f).wi (aJ lb J)) J ?_))))))))));rintro _ _ rfl _ o;refine aE 1 J (bA (aZ [no (fA (Int.natAbs x) (Int.natAbs y))] J ⟨rfl,xl⟩ ?_));exact⟨_,rfl,rfl,o⟩
theorem s7 {nb:Nat}(hx:Zi w sa Aa na ca x)(la:na≤17179869183)(hy:Zi w sb Ab nb cb y)(lb:nb≤17179869183):aQ aM 62 #[O sa Aa na ca,O sb Ab nb cb] w (Gv w (Is (no (bM x y)))):=by
 have Lx:=bP hx la;have Ly:=bP hy lb;refine bU Tryz.func62 22 J (sr (bx (a5 sa Aa na ca) bN J J J fun _ _ h _ _ I=>(fY (a5 sb Ab nb cb) I h.lt J J J fun _ _ G _ _ M E=>(aE 1 J (sr (lo aB (h.ext M) (a5 sa Aa na ca) J J J (aX E (gR (hx.ext E) (aJ la J)) J ?_)))))));rintro _ _ rfl o F;refine aE 1 J (sr (lo aB (G.ext o) (a5 sb Ab nb cb) J J J (aX F (gR (hy.ext F) (aJ lb J)) J ?_)));rintro _ _ rfl H f;refine aE 1 J (aD (aD ?_));by_cases hs:bM x 0=bM y 0
 ·refine aK 2 J (aH J (pP hs) (aG (aT J (bB (aL (aV 1 J (lo aB (h.ext (M.t (o.t H))) (a5 sa Aa na ca) J J J (lo aB (G.ext (o.t H)) (a5 sb Ab nb cb) J J J (aX f (a08 (hx.ext f) (aJ la J) (hy.ext f) (aJ lb J)) J ?_)))))))));rintro _ _ rfl _ L;refine eC J J J (bM x y) (yI (V4 hs) (JP _ _).1 (JP _ _).2) (aE 1 J (bA (aZ [no (bM x y)] J ⟨rfl,xl⟩ ?_)));exact⟨_,rfl,rfl,L⟩
 by_cases hl:bM x 0<bM y 0
 ·refine aK 2 J (aH J (pO hs) (aG (bC J (aD (aV 2 J (aH J (xU hl) (aG (bC J (sr (bS 1 J ?_))))))))));refine aL (bA (cI (cI (aZ [no (-1)] J ⟨rfl,xl⟩ ?_))));exact⟨_,rfl,(show (no (-1):aF)=eL .i64 (bM x y) by rw [V7 hl]),f⟩
 refine aK 2 J (aH J (pO hs) (aG (bC J (aD (aV 2 J (aH J (tI) (aG (aT J (bB (aL (aD ?_)))))))))));refine bH (aE 1 J (bA (cI (aZ [no 1] J ⟨rfl,xl⟩ ?_))));exact⟨_,rfl,(show (no 1:aF)=eL .i64 (bM x y) by rw [V8 i9]),f⟩
theorem qR {nb:Nat}(hb:b≤w.heap.size)(hx:Zi w sa Aa na ca x)(la:na≤17179869183)(hy:Zi w sb Ab nb cb y)(lb:nb≤17179869183):aQ aM 63 #[O sa Aa na ca,O sb Ab nb cb] w (Gv w (ZR b (x+y))):=by
 refine Calls.mono (R:=Gv w (ZR w.heap.size (x+y))) ?_ (Gv.imp (ZR.imp hb));have Lx:=bP hx la;have Ly:=bP hy lb;refine bU Tryz.func63 54 J (sr (bx (a5 sa Aa na ca) bN J J J fun V _ E _ _ ij=>(fY (a5 sb Ab nb cb) ij E.lt J J J fun X _ F _ _ W ig=>(bV [F0,S0] ig F.lt J fun _ _ L I _ f o=>(aG (aD (aD ?_)))))));by_cases av:sa=true
 ·subst av;by_cases U:sb=true
  ·subst U;refine bH (pf V 0 J (bG (cE eW (E.ext (W.t f)) J) J (pf X 0 J (bG (cE eW (F.ext f) J) J (aA (we) J (aG (bC J (sr (pf V 1 J (bG (cE dY (E.ext (W.t f)) J) J (pf X 1 J (bG (cE dY (F.ext f) J) J ?_))))))))))));have fi:(wd ((Int.natAbs x)+(Int.natAbs y))).length≤17179869184:=a8 (xW _ _) (Nat.succ_le_succ (Nat.max_le.2 ⟨a8 Lx yd,a8 Ly yd⟩));refine bI [up Aa na ca,up Ab nb cb] o (OP o.size (hx.ext o).wi (aJ la J) (hy.ext o).wi (aJ lb J)) J ?_;rintro _ _ ⟨ga,gf,ge,rfl,ia,gx⟩ fd h;refine aE 1 J (sr (pf V 0 J (bG (cE eW (E.ext (W.t (f.t fd))) J) J (mv 1 J ?_))));have ir:ln (sg true ((Int.natAbs x)+(Int.natAbs y)))≤17179869184:=by rw [kC];exact fi
   refine bI (a5 true ga gf ge) h (l8 h.size gx.wi (by rw [ia];exact a8 fi yd)) J ?_;rintro _ _ ⟨bo,cm,bj,bm,rfl,ik⟩ gg G;have bf:=(L.ext (fd.t gg));refine so aB bf (a5 bo cm bj bm) G I J J J J fun _ ew fw H=>(aG (bA (cI (aZ [O bo cm bj bm] J ⟨⟨_,rfl,bK aB ew (a5 bo cm bj bm) J (bq J) rfl⟩,xl⟩ ?_))));exact⟨_,rfl,⟨_,_,_,_,rfl,((ik.updT bf fw)).cast (by rw [DS,hx.sg,hy.sg])⟩,H⟩
  replace U:sb=false:=by simpa using U
  subst U;refine bH (pf V 0 J (bG (cE eW (E.ext (W.t f)) J) J (pf X 0 J (bG (cE eW (F.ext f) J) J (aA (wk) J (aG (aT J (bB (aL (aD (aD ?_)))))))))));by_cases M:Int.natAbs y≤Int.natAbs x
  ·refine bH (pf V 1 J (bG (cE dY (E.ext (W.t f)) J) J (pf X 1 J (bG (cE dY (F.ext f) J) J (bI [up Aa na ca,up Ab nb cb] o (y9 (hx.ext o).wi (aJ la J) (hy.ext o).wi (aJ lb J)) J ?_)))));rintro _ _ rfl aq h;refine aH J (PP M) (aG (bC J (sr (pf V 1 J (bG (cE dY (E.ext (W.t (f.t aq))) J) J (pf X 1 J (bG (cE dY (F.ext (f.t aq)) J) J ?_)))))));have dm:(wd ((Int.natAbs x)-(Int.natAbs y))).length≤17179869183:=a8 (iP (Nat.sub_le _ _)) Lx;refine bI [up Aa na ca,up Ab nb cb] h (BM h.size (hx.ext h).wi (aJ la J) (hy.ext h).wi (aJ lb J) M) J ?_;rintro _ _ ⟨_,_,rfl,⟨de,fg,em,rfl,go,io⟩,rfl⟩ ey G;refine mv 1 J (aA (up de fg em) J (aA (no 0) J (aE 2 J (sr (pf V 0 J (bG (cE eW (E.ext (W.t (f.t (aq.t ey)))) J) J (mv 1 J ?_)))))));have iy:ln (sg true ((Int.natAbs x)-(Int.natAbs y)))≤17179869183:=by rw [kC];exact dm
   refine bI (a5 true de fg em) G (l8 G.size io.wi (by rw [go];exact a8 dm yd)) J ?_;rintro _ _ ⟨ct,bu,cz,cp,rfl,fz⟩ gb H;have bd:=(L.ext (aq.t (ey.t gb)));refine so aB bd (a5 ct bu cz cp) H I J J J J fun _ ef ib Y=>(aG (bA (cI (aZ [O ct bu cz cp] J ⟨⟨_,rfl,bK aB ef (a5 ct bu cz cp) J (bq J) rfl⟩,xl⟩ ?_))));exact⟨_,rfl,⟨_,_,_,_,rfl,((fz.updT bd ib)).cast (by rw [uX M];show sg true _+sg false _=_;rw [hx.sg,hy.sg])⟩,Y⟩
  refine bH (pf V 1 J (bG (cE dY (E.ext (W.t f)) J) J (pf X 1 J (bG (cE dY (F.ext f) J) J (bI [up Aa na ca,up Ab nb cb] o (y9 (hx.ext o).wi (aJ la J) (hy.ext o).wi (aJ lb J)) J ?_)))));rintro _ _ rfl au h;refine aH J (PQ M) (aG (aT J (bB (aL (sr (pf X 1 J (bG (cE dY (F.ext (f.t au)) J) J (pf V 1 J (bG (cE dY (E.ext (W.t (f.t au))) J) J ?_)))))))));have dl:(wd ((Int.natAbs y)-(Int.natAbs x))).length≤17179869183:=a8 (iP (Nat.sub_le _ _)) Ly;refine bI [up Ab nb cb,up Aa na ca] h (BM h.size (hy.ext h).wi (aJ lb J) (hx.ext h).wi (aJ la J) i9) J ?_;rintro _ _ ⟨_,_,rfl,⟨fo,fe,ej,rfl,fp,gj⟩,rfl⟩ ei G;refine mv 1 J (aA (up fo fe ej) J (aA (no 0) J (aE 2 J (sr (pf X 0 J (bG (cE eW (F.ext (f.t (au.t ei))) J) J (mv 1 J ?_)))))));have ix:ln (sg false ((Int.natAbs y)-(Int.natAbs x)))≤17179869183:=by rw [kC];exact dl
  refine bI [F0,up fo fe ej] G (l8 G.size gj.wi (by rw [fp];exact a8 dl yd)) J ?_;rintro _ _ ⟨bi,br,ch,ci,rfl,ft⟩ gy H;have ba:=(L.ext (au.t (ei.t gy)));refine so aB ba (a5 bi br ch ci) H I J J J J fun _ dw gk Y=>(aG (bA (aZ [O bi br ch ci] J ⟨⟨_,rfl,bK aB dw (a5 bi br ch ci) J (bq J) rfl⟩,xl⟩ ?_)));exact⟨_,rfl,⟨_,_,_,_,rfl,((ft.updT ba gk)).cast (by rw [uX i9];show sg false _+sg true _=_;rw [hx.sg,hy.sg,Int.add_comm])⟩,Y⟩
 replace av:sa=false:=by simpa using av
 subst av;by_cases U:sb=true
 ·subst U;refine bH (pf V 0 J (bG (cE eW (E.ext (W.t f)) J) J (pf X 0 J (bG (cE eW (F.ext f) J) J (aA (wk) J (aG (aT J (bB (aL (aD (aD ?_)))))))))));by_cases M:Int.natAbs y≤Int.natAbs x
  ·refine bH (pf V 1 J (bG (cE dY (E.ext (W.t f)) J) J (pf X 1 J (bG (cE dY (F.ext f) J) J (bI [up Aa na ca,up Ab nb cb] o (y9 (hx.ext o).wi (aJ la J) (hy.ext o).wi (aJ lb J)) J ?_)))));rintro _ _ rfl ar h;refine aH J (PP M) (aG (bC J (sr (pf V 1 J (bG (cE dY (E.ext (W.t (f.t ar))) J) J (pf X 1 J (bG (cE dY (F.ext (f.t ar)) J) J ?_)))))));have dr:(wd ((Int.natAbs x)-(Int.natAbs y))).length≤17179869183:=a8 (iP (Nat.sub_le _ _)) Lx;refine bI [up Aa na ca,up Ab nb cb] h (BM h.size (hx.ext h).wi (aJ la J) (hy.ext h).wi (aJ lb J) M) J ?_;rintro _ _ ⟨_,_,rfl,⟨fc,eh,fj,rfl,gi,fx⟩,rfl⟩ fb G;refine mv 1 J (aA (up fc eh fj) J (aA (no 0) J (aE 2 J (sr (pf V 0 J (bG (cE eW (E.ext (W.t (f.t (ar.t fb)))) J) J (mv 1 J ?_)))))));have iw:ln (sg false ((Int.natAbs x)-(Int.natAbs y)))≤17179869183:=by rw [kC];exact dr
   refine bI [F0,up fc eh fj] G (l8 G.size fx.wi (by rw [gi];exact a8 dr yd)) J ?_;rintro _ _ ⟨da,bw,cj,cv,rfl,il⟩ fv H;have az:=(L.ext (ar.t (fb.t fv)));refine so aB az (a5 da bw cj cv) H I J J J J fun _ eg fq Y=>(aG (bA (cI (aZ [O da bw cj cv] J ⟨⟨_,rfl,bK aB eg (a5 da bw cj cv) J (bq J) rfl⟩,xl⟩ ?_))));exact⟨_,rfl,⟨_,_,_,_,rfl,((il.updT az fq)).cast (by rw [uX M];show sg false _+sg true _=_;rw [hx.sg,hy.sg])⟩,Y⟩
  refine bH (pf V 1 J (bG (cE dY (E.ext (W.t f)) J) J (pf X 1 J (bG (cE dY (F.ext f) J) J (bI [up Aa na ca,up Ab nb cb] o (y9 (hx.ext o).wi (aJ la J) (hy.ext o).wi (aJ lb J)) J ?_)))));rintro _ _ rfl ao h;refine aH J (PQ M) (aG (aT J (bB (aL (sr (pf X 1 J (bG (cE dY (F.ext (f.t ao)) J) J (pf V 1 J (bG (cE dY (E.ext (W.t (f.t ao))) J) J ?_)))))))));have dz:(wd ((Int.natAbs y)-(Int.natAbs x))).length≤17179869183:=a8 (iP (Nat.sub_le _ _)) Ly;refine bI [up Ab nb cb,up Aa na ca] h (BM h.size (hy.ext h).wi (aJ lb J) (hx.ext h).wi (aJ la J) i9) J ?_;rintro _ _ ⟨_,_,rfl,⟨dh,fh,df,rfl,ie,fy⟩,rfl⟩ fm G;refine mv 1 J (aA (up dh fh df) J (aA (no 0) J (aE 2 J (sr (pf X 0 J (bG (cE eW (F.ext (f.t (ao.t fm))) J) J (mv 1 J ?_)))))));have iu:ln (sg true ((Int.natAbs y)-(Int.natAbs x)))≤17179869183:=by rw [kC];exact dz
  refine bI (a5 true dh fh df) G (l8 G.size fy.wi (by rw [ie];exact a8 dz yd)) J ?_;rintro _ _ ⟨aa,ai,ak,Z,rfl,ez⟩ dy H;have am:=(L.ext (ao.t (fm.t dy)));refine so aB am (a5 aa ai ak Z) H I J J J J fun _ bp fk Y=>(aG (bA (aZ [O aa ai ak Z] J ⟨⟨_,rfl,bK aB bp (a5 aa ai ak Z) J (bq J) rfl⟩,xl⟩ ?_)));exact⟨_,rfl,⟨_,_,_,_,rfl,((ez.updT am fk)).cast (by rw [uX i9];show sg true _+sg false _=_;rw [hx.sg,hy.sg,Int.add_comm])⟩,Y⟩
 replace U:sb=false:=by simpa using U
 subst U;refine bH (pf V 0 J (bG (cE eW (E.ext (W.t f)) J) J (pf X 0 J (bG (cE eW (F.ext f) J) J (aA (we) J (aG (bC J (sr (pf V 1 J (bG (cE dY (E.ext (W.t f)) J) J (pf X 1 J (bG (cE dY (F.ext f) J) J ?_))))))))))));have bg:(wd ((Int.natAbs x)+(Int.natAbs y))).length≤17179869184:=a8 (xW _ _) (Nat.succ_le_succ (Nat.max_le.2 ⟨a8 Lx yd,a8 Ly yd⟩));refine bI [up Aa na ca,up Ab nb cb] o (OP o.size (hx.ext o).wi (aJ la J) (hy.ext o).wi (aJ lb J)) J ?_;rintro _ _ ⟨en,fa,dt,rfl,dx,dg⟩ aw h;refine aE 1 J (sr (pf V 0 J (bG (cE eW (E.ext (W.t (f.t aw))) J) J (mv 1 J ?_))));have iq:ln (sg false ((Int.natAbs x)+(Int.natAbs y)))≤17179869184:=by rw [kC];exact bg
 refine bI [F0,up en fa dt] h (l8 h.size dg.wi (by rw [dx];exact a8 bg yd)) J ?_;rintro _ _ ⟨ae,ah,ag,ab,rfl,du⟩ ee G;have aj:=(L.ext (aw.t ee));refine so aB aj (a5 ae ah ag ab) G I J J J J fun _ bh el H=>(aG (bA (cI (aZ [O ae ah ag ab] J ⟨⟨_,rfl,bK aB bh (a5 ae ah ag ab) J (bq J) rfl⟩,xl⟩ ?_))));exact⟨_,rfl,⟨_,_,_,_,rfl,((du.updT aj el)).cast (by rw [DS,hx.sg,hy.sg])⟩,H⟩
theorem BK {nb:Nat}(hb:b≤w.heap.size)(hx:Zi w sa Aa na ca x)(la:na≤17179869183)(hy:Zi w sb Ab nb cb y)(lb:nb≤17179869183):aQ aM 71 #[O sa Aa na ca,O sb Ab nb cb] w (Gv w (ZR b (x-y))):=by
 refine Calls.mono (R:=Gv w (ZR w.heap.size (x-y))) ?_ (Gv.imp (ZR.imp hb));have Lx:=bP hx la;have Ly:=bP hy lb;refine bU Tryz.func71 13 J (sr (bx (a5 sa Aa na ca) bN J J J fun _ _ V _ _ ae=>(fY (a5 sb Ab nb cb) ae V.lt J J J fun g6 _ E _ _ e8 Z=>(bV [F0,S0] Z E.lt J fun _ _ M L _ o f=>(aG (sr (lo aB (V.ext (e8.t o)) (a5 sa Aa na ca) J J J (pf g6 0 J (bG (cE eW (E.ext o) J) J (aA (.bool (!sb)) J (pf g6 1 J (bG (cE dY (E.ext o) J) J ?_))))))))))));refine aA (.agg #[.bool (!sb),up Ab nb cb]) J ?_;have ai:ln (x+(-y))≤17179869184:=a8 (eK Lx (show ln (-y)≤17179869183 by rw [gQ];exact Ly)) yd;refine aX f (qR f.size (hx.ext f) (aJ la J) (hy.ext f).not (aJ lb J)) J ?_;rintro _ _ ⟨I,F,H,G,rfl,aa⟩ X ab;have h:=(M.ext X);refine so aB h (a5 I F H G) ab L J J J J fun _ U W Y=>(aG (bA (aZ [O I F H G] J ⟨⟨_,rfl,bK aB U (a5 I F H G) J (bq J) rfl⟩,xl⟩ ?_)));exact⟨_,rfl,⟨_,_,_,_,rfl,((aa.updT h W)).cast i9⟩,Y⟩
theorem rZ {nb:Nat}(hb:b≤w.heap.size)(hx:Zi w sa Aa na ca x)(la:na≤17179869183)(hy:Zi w sb Ab nb cb y)(lb:nb≤17179869183):aQ aM 59 #[O sa Aa na ca,O sb Ab nb cb] w (Gv w (ZR b (x*y))):=by
 refine Calls.mono (R:=Gv w (ZR w.heap.size (x*y))) ?_ (Gv.imp (ZR.imp hb));have Lx:=bP hx la;have Ly:=bP hy lb;refine bU Tryz.func59 18 J (sr (bx (a5 sa Aa na ca) bN J J J fun g1 _ H _ _ ao=>(fY (a5 sb Ab nb cb) ao H.lt J J J fun g6 _ E _ _ e8 am=>(bV [F0,S0] am E.lt J fun _ _ W U _ f h=>(aG (sr (pf g1 1 J (bG (cE dY (H.ext (e8.t f)) J) J (pf g6 1 J (bG (cE dY (E.ext f) J) J ?_))))))))));have X:(wd ((Int.natAbs x)*(Int.natAbs y))).length≤34359738366:=a8 (xV _ _) (Nat.add_le_add Lx Ly);refine bI [up Aa na ca,up Ab nb cb] h (a1c h.size (hx.ext h).wi (aJ la J) (hy.ext h).wi (aJ lb J)) J ?_;rintro _ _ ⟨ae,aj,ai,rfl,ag,aa⟩ G Y;refine aE 1 J (sr (pf g1 0 J (bG (cE eW (H.ext (e8.t (f.t G))) J) J (pf g6 0 J (bG (cE eW (E.ext (f.t G)) J) J (aA (.bool (!(sa==sb))) J (mv 1 J ?_)))))));have aw:ln (sg (!(sa==sb)) ((Int.natAbs x)*(Int.natAbs y)))≤34359738366:=by rw [kC];exact X
 refine bI [.bool (!(sa==sb)),up ae aj ai] Y (l8 Y.size aa.wi (by rw [ag];exact a8 X yd)) J ?_;rintro _ _ ⟨M,F,I,L,rfl,aq⟩ ak ah;have o:=(W.ext (G.t ak));refine so aB o (a5 M F I L) ah U J J J J fun _ V ab Z=>(aG (bA (aZ [O M F I L] J ⟨⟨_,rfl,bK aB V (a5 M F I L) J (bq J) rfl⟩,xl⟩ ?_)));exact⟨_,rfl,⟨_,_,_,_,rfl,((aq.updT o ab)).cast ((JL _ _ _ _).trans (by rw [hx.sg,hy.sg]))⟩,Z⟩
theorem OL {nb:Nat}{nd:Nat}(hb:b≤w.heap.size)(hx:Zi w sa Aa na ca x)(la:na≤8589934591)(hy:Zi w sb Ab nb cb y)(lb:nb≤8589934591)(hz:Zi w sd Ad nd cd z)(ld:nd≤8589934591):aQ aM 60 #[O sa Aa na ca,O sb Ab nb cb,O sd Ad nd cd] w (Gv w (ZR b (x*y+z))):=by
 refine Calls.mono (R:=Gv w (ZR w.heap.size (x*y+z))) ?_ (Gv.imp (ZR.imp hb));have Lx:=bP hx la;have Ly:=bP hy lb;have Lz:=bP hz ld;refine bU Tryz.func60 14 J (sr (bx (a5 sa Aa na ca) bN J J J fun _ _ aj _ _ bg=>(fY (a5 sb Ab nb cb) bg aj.lt J J J fun _ _ ag _ _ e8 bf=>(fY (a5 sd Ad nd cd) bf ag.lt J J J fun _ _ o _ _ Z aw=>(bV [F0,S0] aw o.lt J fun _ _ F Y _ I f=>(aG (sr (lo aB (aj.ext (e8.t (Z.t I))) (a5 sa Aa na ca) J J J (lo aB (ag.ext (Z.t I)) (a5 sb Ab nb cb) J J J ?_)))))))));have ak:ln (x*y)≤17179869182:=a8 (dI Lx Ly) yd;refine aX f (rZ f.size (hx.ext f) (aJ la J) (hy.ext f) (aJ lb J)) J ?_;rintro _ _ ⟨ab,am,ai,aq,rfl,ae⟩ H ba;refine bV [F0,S0] ba (F.ext H).lt J fun _ _ E ah _ L au=>(so aB E (a5 ab am ai aq) au ah J J J J fun _ aa V X=>(aG (sr (lo aB aa (a5 ab am ai aq) J J J (lo aB ((o.ext (I.t (H.t L))).vN V) (a5 sd Ad nd cd) J J J ?_)))));have bj:ln ((x*y)+z)≤17179869183:=a8 (eK ak Lz) yd;refine aX X (qR X.size ((ae.ext L).updT E V).zi (ae.le (aJ ak J)) (hz.ext X) (aJ ld J)) J ?_;rintro _ _ ⟨M,W,U,G,rfl,bd⟩ az av;have h:=(((F.ext (H.t L)).vN V).ext az);refine so aB h (a5 M W U G) av Y J J J J fun _ ao ar bh=>(aG (bA (aZ [O M W U G] J ⟨⟨_,rfl,bK aB ao (a5 M W U G) J (bq J) rfl⟩,xl⟩ ?_)));exact⟨_,rfl,⟨_,_,_,_,rfl,((bd.updT h ar)).cast (J)⟩,bh⟩
theorem FJ {nb:Nat}(hb:b≤w.heap.size)(hx:Zi w sa Aa na ca x)(la:na≤17179869183)(hy:Zi w sb Ab nb cb y)(lb:nb≤17179869183)(h0:y≠0):aQ aM 97 #[O sa Aa na ca,O sb Ab nb cb] w (Gv w (T3 (ZR b (x.tdiv y)) (ZR b (x.tmod y)) (Is (no 0)))):=by
 refine Calls.mono (R:=Gv w (T3 (ZR w.heap.size (x.tdiv y)) (ZR w.heap.size (x.tmod y)) (Is (no 0)))) ?_ (Gv.imp (T3.imp (ZR.imp hb) (ZR.imp hb) Is.imp));have Lx:=bP hx la;have Ly:=bP hy lb;have dl:Int.natAbs y≠0:=by omega
 refine bU Tryz.func97 34 J (sr (bx (a5 sa Aa na ca) bN J J J fun g1 _ ag _ _ dm=>(fY (a5 sb Ab nb cb) dm ag.lt J J J fun g6 _ au _ _ e8 dh=>(bV [F0,S0] dh au.lt J fun _ _ ai bm _ G da=>(bV [F0,S0] da ai.lt J fun _ _ bu bo _ E ah=>(aE 1 J (sr (pf g1 1 J (bG (cE dY (ag.ext (e8.t (G.t E))) J) J (pf g6 1 J (bG (cE dY (au.ext (G.t E)) J) J ?_)))))))))));have az:(wd ((Int.natAbs x)/(Int.natAbs y))).length≤17179869183:=a8 (iP (gN _ _)) Lx;have bd:(wd ((Int.natAbs x)%(Int.natAbs y))).length≤17179869183:=a8 (iP (Nat.mod_le _ _)) Lx;refine bI [up Aa na ca,up Ab nb cb] ah (a1b ah.size (hx.ext ah).wi (aJ la J) (hy.ext ah).wi (aJ lb J) dl) J ?_;rintro _ _ ⟨_,_,_,rfl,⟨aq,ba,ao,rfl,ct,df⟩,⟨av,am,ar,rfl,cj,ch⟩,rfl⟩ Z aw;refine mv 1 J (aA (up aq ba ao) J (aA (up av am ar) J (aA (no 0) J (aE 3 J (aD (aV 1 J (aA (wk) J (aG (aT J (bB (aL ?_)))))))))));refine aD ?_;have dx:ln (sg (!(sa==sb)) ((Int.natAbs x)/(Int.natAbs y)))≤17179869183:=by rw [kC];exact az
 have du:ln (sg sa ((Int.natAbs x)%(Int.natAbs y)))≤17179869183:=by rw [kC];exact bd
 refine dW cM 11 [] [Is (i5 g1 0),Is (.bool sa),Is (i5 g6 0),Is (.bool sb),Is (.bool (!(sa==sb))),Is (up aq ba ao),ZR w.heap.size (sg (!(sa==sb)) ((Int.natAbs x)/(Int.natAbs y))),Is (i5 g1 0),Is (.bool sa),Is (up av am ar),ZR w.heap.size (sg sa ((Int.natAbs x)%(Int.natAbs y)))] [[],[0],[],[2],[1,3],[],[4,5],[],[7],[],[8,9]] rfl (bY J ?_ ?_ ?_ ?_ (bY J ?_ ?_ ?_ ?_ (cG J ?_ (cG J ?_ (cG J ?_ dN))))) ?_
 ·exact fun _ _=>aC (pf g1 0 J (aI J))
 ·exact fun _ ci=>aO J (aC (bG (cE eW (ag.ext (e8.t (G.t (E.t (Z.t ci))))) J) J (aI J)))
 ·exact fun _ _=>aC (pf g6 0 J (aI J))
 ·exact fun _ dg=>aO J (aC (bG (cE eW (au.ext (G.t (E.t (Z.t dg)))) J) J (aI J)))
 ·exact fun _ _=>aY J (aC (aA (.bool (!(sa==sb))) J (aI J)))
 ·exact fun _ _=>aC (mv 1 J (aI J))
 ·intro _ bh;have h:=aw.trans bh;refine aY J (aC ?_);have dw:ln (sg (!(sa==sb)) ((Int.natAbs x)/(Int.natAbs y)))≤17179869183:=by rw [kC];exact az
  refine bI [.bool (!(sa==sb)),up aq ba ao] h (l8 h.size (df.ext bh).wi (by rw [ct];exact a8 az yd)) J ?_;rintro _ _ ⟨_,_,_,_,rfl,dr⟩ cp bf;exact bQ J cp ⟨_,_,_,_,rfl,dr⟩
 ·exact fun _ _=>aC (pf g1 0 J (aI J))
 ·exact fun _ de=>aO J (aC (bG (cE eW (ag.ext (e8.t (G.t (E.t (Z.t de))))) J) J (aI J)))
 ·exact fun _ _=>aC (mv 1 J (aI J))
 ·intro _ bw;have h:=aw.trans bw;refine aY J (aC ?_);have dt:ln (sg sa ((Int.natAbs x)%(Int.natAbs y)))≤17179869183:=by rw [kC];exact bd
  refine bI (a5 sa av am ar) h (l8 h.size (ch.ext bw).wi (by rw [cj];exact a8 bd yd)) J ?_;rintro _ _ ⟨_,_,_,_,rfl,bp⟩ bg bf;exact bQ J bg ⟨_,_,_,_,rfl,bp⟩
 intro _ U;have h:=aw.trans U;refine d6 J (aY J (aW J ?_));rintro _ _ ⟨W,L,Y,F,rfl,M⟩ _ bj;have M:=M.ext bj;refine aY J (aO J (aW J ?_));rintro _ _ ⟨H,X,I,ab,rfl,ae⟩ _ br;have ae:=ae.ext br;refine aC ?_;have f:=(ai.ext (E.t (Z.t U)));refine so aB f (a5 W L Y F) h bm J J J J fun _ aj V bf=>?_;have o:=((bu.ext (Z.t U)).vN V);refine so aB o (a5 H X I ab) bf bo J J J J fun _ ak aa cm=>(bS 1 J (dM (aL (bA (aZ [O W L Y F,O H X I ab,I0] J ⟨⟨_,rfl,bK aB (aj.vN aa) (a5 W L Y F) J (bq J) rfl⟩,⟨_,rfl,bK aB ak (a5 H X I ab) J (bq J) rfl⟩,rfl,xl⟩ ?_)))));exact⟨_,rfl,⟨_,_,_,rfl,⟨_,_,_,_,rfl,(((M.updT f V).updT o aa)).cast ((DP _ _ _ _).trans (by rw [hx.sg,hy.sg]))⟩,⟨_,_,_,_,rfl,(((ae.updT f V).updT o aa)).cast ((JK sa sb _ _).trans (by rw [hx.sg,hy.sg]))⟩,rfl⟩,cm⟩
theorem a05 {nb:Nat}(hb:b≤w.heap.size)(hx:Zi w sa Aa na ca x)(la:na≤17179869183)(hy:Zi w sb Ab nb cb y)(lb:nb≤17179869183)(h0:y=0):aQ aM 97 #[O sa Aa na ca,O sb Ab nb cb] w (Gv w (T3 (ZR b (0)) (ZR b (0)) (Is (no 4)))):=by
 refine Calls.mono (R:=Gv w (T3 (ZR w.heap.size (0)) (ZR w.heap.size (0)) (Is (no 4)))) ?_ (Gv.imp (T3.imp (ZR.imp hb) (ZR.imp hb) Is.imp));have Lx:=bP hx la;have Ly:=bP hy lb;have ai:Int.natAbs y=0:=by omega
 refine bU Tryz.func97 34 J (sr (bx (a5 sa Aa na ca) bN J J J fun g1 _ V _ _ aj=>(fY (a5 sb Ab nb cb) aj V.lt J J J fun g6 _ M _ _ e8 ah=>(bV [F0,S0] ah M.lt J fun _ _ o H _ L ae=>(bV [F0,S0] ae o.lt J fun _ _ aa I _ F Z=>(aE 1 J (sr (pf g1 1 J (bG (cE dY (V.ext (e8.t (L.t F))) J) J (pf g6 1 J (bG (cE dY (M.ext (L.t F)) J) J ?_)))))))))));refine bI [up Aa na ca,up Ab nb cb] Z (a1a (hy.ext Z).wi (aJ lb J) ai) J ?_;rintro _ U rfl X ag;refine mv 1 J (aA (up none 0 0) J (aA (up none 0 0) J (aA (no 4) J (aE 3 J (aD (aV 1 J (aA (we) J (aG (bC J (sr (aA (.agg #[F0,S0]) J ?_)))))))))));refine aA (.agg #[F0,S0]) J ?_;have f:=(o.ext (F.t X));refine so aB f [F0,S0] ag H J J J J fun _ W E ab=>?_;have h:=((aa.ext X).vN E);refine so aB h [F0,S0] ab I J J J J fun _ Y G ak=>(aE 1 J (bA (cI (aZ [.agg #[F0,S0],.agg #[F0,S0],no 4] J ⟨⟨_,rfl,bK aB (W.vN G) [F0,S0] J (bq J) rfl⟩,⟨_,rfl,bK aB Y [F0,S0] J (bq J) rfl⟩,rfl,xl⟩ ?_))));exact⟨_,rfl,⟨_,_,_,rfl,⟨_,_,_,_,rfl,(((Zr.zero (w:=U) (base:=w.heap.size)).updT f E).updT h G)⟩,⟨_,_,_,_,rfl,(((Zr.zero (w:=U) (base:=w.heap.size)).updT f E).updT h G)⟩,rfl⟩,ak⟩
theorem TM:x.tmod y=0↔x.natAbs%y.natAbs=0:=by rw [←Int.natAbs_tmod,Int.natAbs_eq_zero]
theorem BL {nb:Nat}(hb:b≤w.heap.size)(hx:Zi w sa Aa na ca x)(la:na≤17179869183)(hy:Zi w sb Ab nb cb y)(lb:nb≤17179869183)(h0:y≠0)(h1:x.natAbs%y.natAbs=0):aQ aM 57 #[O sa Aa na ca,O sb Ab nb cb] w (Gv w (T2 (ZR b (x.tdiv y)) (Is (no 0)))):=by
 refine Calls.mono (R:=Gv w (T2 (ZR w.heap.size (x.tdiv y)) (Is (no 0)))) ?_ (Gv.imp (T2.imp (ZR.imp hb) Is.imp));have Lx:=bP hx la;have Ly:=bP hy lb;refine bU Tryz.func57 25 J (sr (bx (a5 sa Aa na ca) bN J J J fun _ _ ar _ _ bm=>(fY (a5 sb Ab nb cb) bm ar.lt J J J fun _ _ ao _ _ e8 bi=>(bV [F0,S0] bi ao.lt J fun _ _ U ag _ ai H=>(aE 1 J (sr (lo aB (ar.ext (e8.t ai)) (a5 sa Aa na ca) J J J (lo aB (ao.ext ai) (a5 sb Ab nb cb) J J J ?_))))))));have bw:ln ((x).tdiv y)≤17179869183:=a8 (jG _ _) Lx;have bp:ln ((x).tmod y)≤17179869183:=a8 (tK _ _) Lx;refine aX H (FJ H.size (hx.ext H) (aJ la J) (hy.ext H) (aJ lb J) h0) J ?_;rintro _ _ ⟨_,_,_,rfl,⟨E,f,h,o,rfl,ba⟩,⟨Z,Y,X,ab,rfl,aw⟩,rfl⟩ ak bj;refine mv 1 J (aA (O E f h o) J (aA (O Z Y X ab) J (aA (no 0) J (bV [F0,S0] bj (U.ext ak).lt J fun _ _ V aj _ ae bh=>(bV [F0,S0] bh V.lt J fun _ _ av am _ M bd=>?_)))));have F:=(V.ext M);refine so aB F (a5 E f h o) bd aj J J J J fun _ az L br=>?_;have G:=(av.vN L);refine so aB G (a5 Z Y X ab) br am J J J J fun _ au I bf=>(aE 1 J (aD (aV 1 J (aA (wk) J (aG (aT J (bB (aL (aD (sr (lo aB au (a5 Z Y X ab) J J J ?_)))))))))));refine aX bf (gR (((aw.ext (ae.t M)).updT F L).updT G I).zi (aw.le (aJ bp J))) J ?_;rintro _ _ rfl aa bo;refine aH J (rJ (TM.2 h1)) (aG (aT J (bB (aL (sr (lo aB ((az.vN I).ext aa) (a5 E f h o) J J J ?_))))));have W:=((((U.ext (ak.t (ae.t M))).vN L).vN I).ext aa);refine so aB W (a5 E f h o) bo ag J J J J fun _ aq bg ah=>(aE 1 J (bA (aZ [O E f h o,I0] J ⟨⟨_,rfl,bK aB aq (a5 E f h o) J (bq J) rfl⟩,rfl,xl⟩ ?_)));exact⟨_,rfl,⟨_,_,rfl,⟨_,_,_,_,rfl,(((((ba.ext (ae.t M)).updT F L).updT G I).ext aa).updT W bg)⟩,rfl⟩,ah⟩
theorem OJ (hb:b≤w.heap.size):aQ aM 65 #[no 1] w (Gv w (ZR b (1))):=by
 refine Calls.mono (R:=Gv w (ZR w.heap.size (1))) ?_ (Gv.imp (ZR.imp hb));refine bU Tryz.func65 14 J (sr (nI [F0,S0] bN J fun _ _ V X _ M=>(aG (aD (aV 1 J (aA (wk) J (aG (aT J (bB (aL (aD ?_)))))))))));refine aK 1 J (aA (t9 1) J (iF J J (k:=1) (e:=43) [t9 1] ye fun g6 _ I=>?_));have o9:=O1.mk_ (x:=1) (b:=w.heap.size) I M.size;have U:=I.ext;have L:=M.trans U;have ae:=vB o9 (by decide:1≤18446744073709551615) (by decide:1≠0);have h:=vP (by decide:1≤18446744073709551615) (by decide:1≠0);have ag:ln (sg false 1)≤1:=by rw [kC];exact (Nat.le_of_eq h.symm)
 refine bI [F0,up (some ⟨g6,0,none⟩) 1 1] L (l8 L.size ae.wi (by rw [h];exact a8 (Nat.le_of_eq h.symm) yd)) J ?_;rintro _ _ ⟨E,F,o,G,rfl,Y⟩ W aa;have f:=(V.ext (U.t W));refine so aB f (a5 E F o G) aa X J J J J fun _ H Z ab=>(aG (bA (aZ [O E F o G] J ⟨⟨_,rfl,bK aB H (a5 E F o G) J (bq J) rfl⟩,xl⟩ ?_)));exact⟨_,rfl,⟨_,_,_,_,rfl,((Y.updT f Z)).cast (J)⟩,ab⟩
theorem a3v (hx:xs.length=n)(he:es.length=n)(hwx:Wfb 4294967296 xs)(hwe:Wfb 4294967296 es)(hj:j<n)(h:nb 4294967296 (xs.drop (j+1))=nb 4294967296 (es.drop (j+1)))(hd:xs.getD j 0<es.getD j 0):nb 4294967296 xs<nb 4294967296 es:=by
 have:=FC (s:=0) hx he i9 hwx hwe hj (by rw [eR];exact h) (by rw [eR];exact hd);rw [Nat.pow_zero,eH] at this;omega
theorem a3x (hx:xs.length=n)(he:es.length=n)(hwx:Wfb 4294967296 xs)(hwe:Wfb 4294967296 es)(hj:j<n)(h:nb 4294967296 (xs.drop (j+1))=nb 4294967296 (es.drop (j+1)))(hd:¬xs.getD j 0<es.getD j 0)(hne:xs.getD j 0≠es.getD j 0):¬nb 4294967296 xs<nb 4294967296 es:=by
 have:=FD (s:=0) hx he i9 hwx hwe hj (by rw [eR];exact h) (by rw [eR];omega);rw [Nat.pow_zero,eH] at this;omega
theorem a3u (hx:xs.length=n)(he:es.length=n)(hj:j<n)(h:nb 4294967296 (xs.drop (j+1))=nb 4294967296 (es.drop (j+1)))(hd:xs.getD j 0=es.getD j 0):nb 4294967296 (xs.drop j)=nb 4294967296 (es.drop j):=by
 rw [lZ (xs:=xs) (k:=j) i9,lZ (xs:=es) (k:=j) i9,h,hd]
theorem a3w (h:(db 4294967296 X).length<(db 4294967296 Y).length):X<Y:=by
 refine pC fun e=>?_;have:=vO hZ e;omega
theorem WU (hx:Rd w A n cap (db 4294967296 X))(hln:n≤274877906944)(hy:Rd w D m cd (db 4294967296 Y))(hlm:m≤274877906944):aQ aM 137 #[up A n cap,up D m cd] w (Gv w (Is (.bool (decide (X<Y))))):=by
 have G:=hx.len;have F:=hy.len;have hwx:=lQ hZ X;have hwe:=lQ hZ Y;refine bU Tryz.func137 41 J (sr (aE 1 J (aD (aD ?_))));by_cases bw:n≠m
 ·by_cases ch:n<m
  ·refine aK 1 J (aA (no n) J (mv 1 J (aA (no m) J (aH J (vD n m J) (aG (bC J (aV 1 J (aA (no n) J (mv 1 J (aA (no m) J (aH J (dV n m J) ?_)))))))))));refine aE 1 J (bA (cI (aZ [we] J ⟨rfl,xl⟩ ?_)));have L:X<Y:=a3w i9;exact⟨_,rfl,(by rw [decide_eq_true L];rfl),bN⟩
  refine aK 1 J (aA (no n) J (mv 1 J (aA (no m) J (aH J (vD n m J) (aG (bC J (aV 1 J (aA (no n) J (mv 1 J (aA (no m) J (aH J (dQ n m J) ?_)))))))))));refine aE 1 J (bA (cI (aZ [F0] J ⟨rfl,xl⟩ ?_)));have L:¬X<Y:=fun e=>by have:=vO hZ (Nat.le_of_lt e);omega
  exact⟨_,rfl,(by rw [decide_eq_false L];rfl),bN⟩
 obtain rfl:n=m:=by omega
 refine aK 1 J (aA (no n) J (mv 1 J (aA (no n) J (aH J (lW n n J) (aG (aT J (bB (aL (aD (aV 1 J (aA (no n) J ?_)))))))))));refine eC J J J (((n:Nat):Int)-1) (fS J) (aE 1 J (bO ?_));refine dC (T:=a6×Nat×Int) (fun⟨wr,k,ii⟩=> [(0,up A n cap),(1,up D n cd),(5,no ii)]) (fun⟨wr,k,ii⟩=>wr) (fun⟨wr,k,ii⟩=>(Ext w wr)∧(k≤n)∧(ii=(k:Int)-1)∧(nb 4294967296 ((db 4294967296 X).drop k)=nb 4294967296 ((db 4294967296 Y).drop k))∧(Rd wr A n cap (db 4294967296 (X)))∧(Rd wr D n cd (db 4294967296 (Y)))) (fun⟨wr,k,ii⟩=>k) (⟨w,n,_⟩:a6×Nat×Int) ⟨bN,aU _,rfl,(by rw [List.drop_of_length_le i9,List.drop_of_length_le i9]),hx,hy⟩ J (aP J) ?_;rintro⟨wr,k,ii⟩ ⟨U,_,_,f,M,I⟩;refine aD (aD ?_);by_cases bu:0<k
 ·obtain⟨j,rfl⟩:∃j,k=j+1:=⟨k-1,by omega⟩;obtain rfl:ii=(j:Int):=by omega
  refine aK 1 J (aH J (i8 j 0 J) (aG (bC J (bB (aL (aD (bO (aD ?_))))))));by_cases bh:(db 4294967296 (X)).getD j 0≠(db 4294967296 (Y)).getD j 0
  ·by_cases aw:(db 4294967296 (X)).getD j 0<(db 4294967296 (Y)).getD j 0
   ·refine f9 [(0,up A n cap),(1,up D n cd),(5,no j),(19,no j),(20,we)] (aP J) ?_;obtain⟨v1,f,e2⟩:=gH wr;have H:=U.trans e2;obtain⟨Z,ar,az,_⟩:=((M.ext e2)).at (i:=j) i9;obtain⟨V,bf,au,_⟩:=((I.ext e2)).at (i:=j) i9;refine gJ cM v1 [up A n cap,no j,.pointer (some Z),t9 ((db 4294967296 (X)).getD j 0:Nat),up D n cd,no j,.pointer (some V),t9 ((db 4294967296 (Y)).getD j 0:Nat),we] [v1] [] [[],[],[0,1],[2],[],[],[4,5],[6],[3,7]] [(0,0),(1,0),(2,0),(3,0),(4,0),(5,0),(6,0),(7,0),(8,0)] J f ?_ ?_
    ·exact aR J (cC J) (aR J (cC J) (aR J (gG J J cH bZ j J Z ar) (aR J (cS J (d5 dK az)) (aR J (cC J) (aR J (cC J) (aR J (gG J J cH bZ j J V bf) (aR J (cS J (d5 dK au)) (aR J (mZ J J true (vD ((db 4294967296 (X)).getD j 0) ((db 4294967296 (Y)).getD j 0) J)) gI))))))))
    clear f;refine fU [(0,up A n cap),(1,up D n cd),(5,no j),(19,no j),(20,we),(23,up A n cap),(24,no j),(25,.pointer (some Z)),(26,t9 ((db 4294967296 (X)).getD j 0:Nat)),(27,up D n cd),(28,no j),(29,.pointer (some V)),(30,t9 ((db 4294967296 (Y)).getD j 0:Nat)),(31,we)] (aP J) (aL (bC J (aD (f9 [(0,up A n cap),(1,up D n cd),(5,no j),(19,no j),(20,we),(23,up A n cap),(24,no j),(25,.pointer (some Z)),(26,t9 ((db 4294967296 (X)).getD j 0:Nat)),(27,up D n cd),(28,no j),(29,.pointer (some V)),(30,t9 ((db 4294967296 (Y)).getD j 0:Nat)),(31,we)] (aP J) ?_))));obtain⟨v5,f,e6⟩:=gH v1;have ai:=H.trans e6;refine gJ cM v5 [up A n cap,no j,.pointer (some Z),t9 ((db 4294967296 (X)).getD j 0:Nat),up D n cd,no j,.pointer (some V),t9 ((db 4294967296 (Y)).getD j 0:Nat),we,we] [v5] [] [[],[],[0,1],[2],[],[],[4,5],[6],[3,7],[8]] [(0,0),(1,0),(2,0),(3,0),(4,0),(5,0),(6,0),(7,0),(8,0),(9,0)] J f ?_ ?_
    ·exact aR J (cC J) (aR J (cC J) (aR J (gG J J cH bZ j J Z ar) (aR J (cS J (d5 dK (e6.cell az))) (aR J (cC J) (aR J (cC J) (aR J (gG J J cH bZ j J V bf) (aR J (cS J (d5 dK (e6.cell au))) (aR J (mZ J J true (dV ((db 4294967296 (X)).getD j 0) ((db 4294967296 (Y)).getD j 0) J)) (aR J (kA J) gI)))))))))
    clear f;refine fU [(0,up A n cap),(1,up D n cd),(5,no j),(19,no j),(20,we),(23,up A n cap),(24,no j),(25,.pointer (some Z)),(26,t9 ((db 4294967296 (X)).getD j 0:Nat)),(27,up D n cd),(28,no j),(29,.pointer (some V)),(30,t9 ((db 4294967296 (Y)).getD j 0:Nat)),(31,we),(32,up A n cap),(33,no j),(34,.pointer (some Z)),(35,t9 ((db 4294967296 (X)).getD j 0:Nat)),(36,up D n cd),(37,no j),(38,.pointer (some V)),(39,t9 ((db 4294967296 (Y)).getD j 0:Nat)),(40,we),(4,we)] (aP J) (aL (bA (gV (cI (oC (gV (cI (aZ [we] J ⟨rfl,xl⟩ ?_))))))));have L:X<Y:=a3v G F hwx hwe i9 f aw |> fun h=>by rwa [iS hZ,iS hZ] at h
    exact⟨_,rfl,(by rw [decide_eq_true L];rfl),ai⟩
   refine f9 [(0,up A n cap),(1,up D n cd),(5,no j),(19,no j),(20,we)] (aP J) ?_;obtain⟨v7,f,e8⟩:=gH wr;have H:=U.trans e8;obtain⟨p9,ak,ba,_⟩:=((M.ext e8)).at (i:=j) i9;obtain⟨o,W,aa,_⟩:=((I.ext e8)).at (i:=j) i9;refine gJ cM v7 [up A n cap,no j,.pointer (some p9),t9 ((db 4294967296 (X)).getD j 0:Nat),up D n cd,no j,.pointer (some o),t9 ((db 4294967296 (Y)).getD j 0:Nat),we] [v7] [] [[],[],[0,1],[2],[],[],[4,5],[6],[3,7]] [(0,0),(1,0),(2,0),(3,0),(4,0),(5,0),(6,0),(7,0),(8,0)] J f ?_ ?_
   ·exact aR J (cC J) (aR J (cC J) (aR J (gG J J cH bZ j J p9 ak) (aR J (cS J (d5 dK ba)) (aR J (cC J) (aR J (cC J) (aR J (gG J J cH bZ j J o W) (aR J (cS J (d5 dK aa)) (aR J (mZ J J true (vD ((db 4294967296 (X)).getD j 0) ((db 4294967296 (Y)).getD j 0) J)) gI))))))))
   clear f;refine fU [(0,up A n cap),(1,up D n cd),(5,no j),(19,no j),(20,we),(23,up A n cap),(24,no j),(25,.pointer (some p9)),(26,t9 ((db 4294967296 (X)).getD j 0:Nat)),(27,up D n cd),(28,no j),(29,.pointer (some o)),(30,t9 ((db 4294967296 (Y)).getD j 0:Nat)),(31,we)] (aP J) (aL (bC J (aD (f9 [(0,up A n cap),(1,up D n cd),(5,no j),(19,no j),(20,we),(23,up A n cap),(24,no j),(25,.pointer (some p9)),(26,t9 ((db 4294967296 (X)).getD j 0:Nat)),(27,up D n cd),(28,no j),(29,.pointer (some o)),(30,t9 ((db 4294967296 (Y)).getD j 0:Nat)),(31,we)] (aP J) ?_))));obtain⟨av,f,aj⟩:=gH v7;have ai:=H.trans aj;refine gJ cM av [up A n cap,no j,.pointer (some p9),t9 ((db 4294967296 (X)).getD j 0:Nat),up D n cd,no j,.pointer (some o),t9 ((db 4294967296 (Y)).getD j 0:Nat),F0,F0] [av] [] [[],[],[0,1],[2],[],[],[4,5],[6],[3,7],[8]] [(0,0),(1,0),(2,0),(3,0),(4,0),(5,0),(6,0),(7,0),(8,0),(9,0)] J f ?_ ?_
   ·exact aR J (cC J) (aR J (cC J) (aR J (gG J J cH bZ j J p9 ak) (aR J (cS J (d5 dK (aj.cell ba))) (aR J (cC J) (aR J (cC J) (aR J (gG J J cH bZ j J o W) (aR J (cS J (d5 dK (aj.cell aa))) (aR J (mZ J J false (dQ ((db 4294967296 (X)).getD j 0) ((db 4294967296 (Y)).getD j 0) J)) (aR J (kA J) gI)))))))))
   clear f;refine fU [(0,up A n cap),(1,up D n cd),(5,no j),(19,no j),(20,we),(23,up A n cap),(24,no j),(25,.pointer (some p9)),(26,t9 ((db 4294967296 (X)).getD j 0:Nat)),(27,up D n cd),(28,no j),(29,.pointer (some o)),(30,t9 ((db 4294967296 (Y)).getD j 0:Nat)),(31,we),(32,up A n cap),(33,no j),(34,.pointer (some p9)),(35,t9 ((db 4294967296 (X)).getD j 0:Nat)),(36,up D n cd),(37,no j),(38,.pointer (some o)),(39,t9 ((db 4294967296 (Y)).getD j 0:Nat)),(40,wk),(4,wk)] (aP J) (aL (bA (gV (cI (oC (gV (cI (aZ [F0] J ⟨rfl,xl⟩ ?_))))))));have L:¬X<Y:=a3x G F hwx hwe i9 f aw bh |> fun h=>by rwa [iS hZ,iS hZ] at h
   exact⟨_,rfl,(by rw [decide_eq_false L];rfl),ai⟩
  refine f9 [(0,up A n cap),(1,up D n cd),(5,no j),(19,no j),(20,we)] (aP J) ?_;obtain⟨ae,f,E⟩:=gH wr;have H:=U.trans E;obtain⟨ag,bd,ao,_⟩:=((M.ext E)).at (i:=j) i9;obtain⟨ah,am,aq,_⟩:=((I.ext E)).at (i:=j) i9;refine gJ cM ae [up A n cap,no j,.pointer (some ag),t9 ((db 4294967296 (X)).getD j 0:Nat),up D n cd,no j,.pointer (some ah),t9 ((db 4294967296 (Y)).getD j 0:Nat),F0] [ae] [] [[],[],[0,1],[2],[],[],[4,5],[6],[3,7]] [(0,0),(1,0),(2,0),(3,0),(4,0),(5,0),(6,0),(7,0),(8,0)] J f ?_ ?_
  ·exact aR J (cC J) (aR J (cC J) (aR J (gG J J cH bZ j J ag bd) (aR J (cS J (d5 dK ao)) (aR J (cC J) (aR J (cC J) (aR J (gG J J cH bZ j J ah am) (aR J (cS J (d5 dK aq)) (aR J (mZ J J false (lW ((db 4294967296 (X)).getD j 0) ((db 4294967296 (Y)).getD j 0) J)) gI))))))))
  clear f;refine fU [(0,up A n cap),(1,up D n cd),(5,no j),(19,no j),(20,we),(23,up A n cap),(24,no j),(25,.pointer (some ag)),(26,t9 ((db 4294967296 (X)).getD j 0:Nat)),(27,up D n cd),(28,no j),(29,.pointer (some ah)),(30,t9 ((db 4294967296 (Y)).getD j 0:Nat)),(31,wk)] (aP J) (aL (aT J (bB (bT (aL (aK 1 J (eC J J J (((j:Nat):Int)-1) (fS J) (bS 1 J (cP (⟨ae,j,_⟩:a6×Nat×Int) ⟨H,i9,rfl,a3u G F i9 f i9,(M.ext E),(I.ext E)⟩ (show j<j+1 by omega) J (aP J))))))))))
 obtain rfl:k=0:=by omega
 refine aK 1 J (aH J (mJ) (aG (aT J (d9 (cY (d7 (d8 (aL (sr (aE 1 J (bA ?_)))))))))));refine aZ [F0] J ⟨rfl,xl⟩ ?_;have bp:¬X<Y:=by have h1:=iS hZ X;have h2:=iS hZ Y;rw [iN,iN,h1,h2] at f;omega
 have L:¬X<Y:=bp;exact⟨_,rfl,(by rw [decide_eq_false L];rfl),U⟩
def PK (g N q:Nat)(l:List Nat)(w:a6)(e:Ending)(w':a6):Prop:=
 e= .returned (.tuple #[])∧Upd g w w'∧∃l',Bk w' g 43 (l'.map bF)∧l'.length=N∧Wfb 4294967296 l'∧nb 4294967296 l'=nb 4294967296 l*4+q
theorem Y3 {x:Nat}(h:nb b (l'.take i)+b^i*c=nb b (l.take i)*4+q)(hi:i<l'.length)(hi2:i<l.length)(hx:l.getD i 0=x)(hd:d+b*d'=x*4+c):nb b ((l'.set i d).take (i+1))+b^(i+1)*d'=nb b (l.take (i+1))*4+q:=by
 rw [pQ b hi,jE b l i hi2,hx,dS,cU,k8,←dE,hd,dE,eE];have e:b^i*(x*4)=b^i*x*4:=by rw [cU]
 omega
theorem ED (h:∀j,i≤j→l'.getD j 0=l.getD j 0):∀j,i+1≤j→(l'.set i d).getD j 0=l.getD j 0:=fun j _=>by rw [getD_set_ne i9,h j i9]
theorem Y4 (hl:l.length=N)(hl':l'.length=N)(h:nb 4294967296 (l'.take N)+4294967296^N*c=nb 4294967296 (l.take N)*4+q)(hb:nb 4294967296 l*4+q<4294967296^N):nb 4294967296 l'=nb 4294967296 l*4+q:=by
 rw [List.take_of_length_le i9,List.take_of_length_le i9] at h
 have hc:c=0:=by
  refine Nat.eq_zero_of_not_pos fun f=>?_
  have o:4294967296^N*1≤4294967296^N*c:=gT _ f
  omega
 rw [hc,iV,fN] at h;exact h
theorem KI (hb0:Bk w g 43 (l.map bF))(hl0:l.length=N)(hN:N≤1099511627776)(hwl:Wfb 4294967296 l)(hq:q≤3)(hfit:nb 4294967296 l*4+q<4294967296^N):aQ aM 136 #[up (some ⟨g,0,none⟩) N N,t9 q] w (PK g N q l w):=by
 refine bU Tryz.func136 28 J (sr (aE 2 J (sr (aE 1 J (bO ?_)))));refine dC (T:=a6×Nat×Nat×List Nat) (fun⟨wr,i,c,l'⟩=> [(0,up (some ⟨g,0,none⟩) N N),(4,t9 c),(5,no i)]) (fun⟨wr,i,c,l'⟩=>wr) (fun⟨wr,i,c,l'⟩=>(Upd g w wr)∧(i≤N)∧(c≤3)∧(Bk wr g 43 (l'.map bF))∧(l'.length=N)∧(Wfb 4294967296 l')∧(∀j,i≤j→l'.getD j 0=l.getD j 0)∧(nb 4294967296 (l'.take i)+4294967296^i*c=nb 4294967296 (l.take i)*4+q)) (fun⟨wr,i,c,l'⟩=>N-i) (⟨w,0,q,l⟩:a6×Nat×Nat×List Nat) ⟨Upd.refl g w,(bX _),i9,hb0,hl0,hwl,(fun _ _=>rfl),(by simp [nb])⟩ J (aP J) ?_;rintro⟨wr,i,c,l'⟩ ⟨F,hi,hc,hb,hl,f,h,G⟩;refine aD (aD ?_);by_cases L:i<N
 ·refine aK 2 J (aA (no N) J (aH J (dV i N J) (aG (bC J (bB (aL (aD (bO (aD ?_)))))))));have M:=jK (b:=4294967296) f i;refine aK 2 J (cA cH bZ i ⟨g,i,none⟩ (eG _ _) J (bG (jF dK hb (by rw [hl];omega)) J (bD J (lV (l'.getD i 0) 4 J) (mv 1 J (bD J (jC ((l'.getD i 0)*4) c J) (aE 1 J (aV 3 J (bD J (kT (((l'.getD i 0)*4)+c) 4294967296 J) (cA cH bZ i ⟨g,i,none⟩ (eG _ _) J ?_)))))))));have o:=hb;refine i0 J J J bZ J o (iQ (by rw [hl];omega)) J ((l'.set i ((((l'.getD i 0)*4)+c)%4294967296)).map bF) (eM _ _ _) fun I E H _=>(aG (aK 1 J (bD J (kU (((l'.getD i 0)*4)+c) 4294967296 J) (bS 1 J (bT (aL (aK 1 J (bD J (cK i 1 J) (bS 1 J ?_)))))))));refine cP (⟨I,i+1,_,_⟩:a6×Nat×Nat×List Nat) ⟨F.trans H,i9,i9,E,(jQ (l:=l') (hl)),jJ f _ (hx:=(g7 _ yd)),(ED h),(Y3 G i9 i9 (h i (aU _)).symm (kF _ _))⟩ (show N-(i+1)<N-i by omega) J (aP J)
 refine aK 2 J (aA (no N) J (aH J (dQ i N J) (aG (aT J (d9 (cY (d7 (d8 (sA [] J xl ?_)))))))));obtain rfl:i=N:=by omega
 exact⟨rfl,F,l',hb,hl,f,Y4 hl0 hl G hfit⟩
theorem WW (hx:Rd w A n cap xs)(hln:n≤137438953472)(hy:Rd w D m cd ys)(hlm:m≤137438953472):aQ aM 95 #[up A n cap,up D m cd] w (Gv w (WR w.heap.size (Nat.gcd (nv xs) (nv ys)))):=by
 refine bU Tryz.func95 26 J (sr (aE 1 J (aV 1 J (bI [up A n cap] bN (v8 hx) J ?_))));rintro _ _ ⟨_,_,_,rfl,X⟩ e2 H;refine aE 1 J (aV 1 J (bI [up D m cd] H (v8 (hy.ext e2)) J ?_));rintro _ v5 ⟨_,_,_,rfl,fT⟩ e6 G;refine aE 1 J (aD (bO ?_));have av:=X.hl hx (aU _);have ba:=fT.hl hy (aU _);refine dC (T:=a6×Option a7×Nat×Nat×Nat×Option a7×Nat×Nat×Nat) (fun⟨wr,U,I,M,F,V,o,d1,f⟩=> [(5,up U I M),(6,up V o d1)]) (fun⟨wr,U,I,M,F,V,o,d1,f⟩=>wr) (fun⟨wr,U,I,M,F,V,o,d1,f⟩=>(Ext w wr)∧(I≤274877906944)∧(o≤274877906944)∧(Nat.gcd F f=Nat.gcd (nv xs) (nv ys))∧(Rd wr U I M (db 4294967296 (F)))∧(Rd wr V o d1 (db 4294967296 (f)))) (fun⟨wr,U,I,M,F,V,o,d1,f⟩=>f) (⟨v5,_,_,_,_,_,_,_,_⟩:a6×Option a7×Nat×Nat×Nat×Option a7×Nat×Nat×Nat) ⟨G,i9,i9,rfl,(X.ext e6),fT⟩ J (aP J) ?_;rintro⟨wr,U,I,M,F,V,o,d1,f⟩ ⟨H,_,_,hg,W,E⟩;refine aD (aD ?_);by_cases ar:o>0
 ·have ag:f≠0:=fun e=>by have h:=E.len;rw [e,lC] at h;simp only [List.length_nil] at h;omega
  refine aK 1 J (aA (no o) J (aH J (gB o 0 J) (aG (bC J (bB (aL (bO (aV 2 J (bI [up U I M,up V o d1] H (KJ W i9 E i9 ag) J ?_)))))))));rintro _ v9 ⟨_,_,rfl,⟨ak,Y,aa,rfl,_⟩,⟨aj,ah,am,rfl,L⟩⟩ ab G;refine mv 1 J (aA (up ak Y aa) J (aA (up aj ah am) J (aE 2 J (sr (aE 2 J (bH (bS 2 J (bT (cP (⟨v9,_,_,_,f,_,_,_,F%f⟩:a6×Option a7×Nat×Nat×Nat×Option a7×Nat×Nat×Nat) ⟨G,i9,(by have h1:=L.len;have h2:=E.len;have h3:=vO hZ (Nat.le_of_lt (g7 F (show f>0 by omega)));omega),(by rw [←hg,Nat.gcd_comm F f,Nat.gcd_rec f F,Nat.gcd_comm]),(E.ext ab),L⟩ (show F%f<f from g7 _ i9) J (aP J))))))))))
 obtain rfl:f=0:=(tN hZ).1 (by have h:=E.len;omega);rw [Nat.gcd_zero_right] at hg;refine aK 1 J (aA (no o) J (aH J (i7 o 0 J) (aG (aT J (d9 (cY (d7 (d8 (aL (aV 1 J (bI [up U I M] H (E7 H.size W) J ?_)))))))))));rintro _ _ ⟨aq,ao,ai,rfl,Z,ae⟩ _ G;refine aE 1 J (bA (aZ [up aq ao ai] J ⟨rfl,xl⟩ ?_));exact⟨_,rfl,(by rw [←hg];exact⟨_,_,_,rfl,Z,ae⟩),G⟩
theorem a09 (hb:b≤w.heap.size)(hx:Wi w A n cap i)(hl:n≤17179869183)(hy:Wi w B m cap' j)(hl':m≤17179869183):aQ aM 95 #[up A n cap,up B m cap'] w (Gv w (WR b (Nat.gcd i j))):=by
 obtain⟨xs,h1,rfl⟩:=hx;obtain⟨ys,h2,rfl⟩:=hy;exact (WW h1 i9 h2 i9).mono (Gv.imp (WR.imp hb))
theorem FS {q r:Int}(h0:y≠0)(he:q*y+r=x)(h1:0≤r)(h2:r<(y.natAbs:Int):=by omega):q=x/y∧r=x%y:=by
 have G:=Int.mul_ediv_add_emod x y;have H:=kS x h0;have F:=Int.emod_lt x h0;have E:(q-x/y)*y=x%y-r:=by rw [Int.sub_mul,Int.mul_comm (x/y)];omega
 have I:q-x/y=0:=by
  by_cases h:q-x/y=0
  ·exact h
  ·exfalso
   have o:((q-x/y)*y).natAbs<y.natAbs:=by rw [E];omega
   rw [Int.natAbs_mul] at o
   have:1*y.natAbs≤(q-x/y).natAbs*y.natAbs:=fC _ i9
   omega
 have f:q=x/y:=by omega
 refine⟨f,?_⟩;rw [f,Int.mul_comm] at he;omega
theorem Z5 (x y:Int):(x/y).natAbs≤x.natAbs:=by
 by_cases h:y=0
 ·subst h;simp
 have H:=Int.mul_ediv_add_emod x y;have I:=kS x h;have F:=Int.emod_lt x h;have f:(y*(x/y)).natAbs=y.natAbs*(x/y).natAbs:=Int.natAbs_mul _ _;rcases Nat.lt_or_ge y.natAbs 2 with E | E
 ·have h1:y.natAbs=1:=by omega
  rw [h1,Nat.one_mul] at f;omega
 by_cases L:(x/y).natAbs=0
 ·omega
 have G:y.natAbs+(x/y).natAbs≤y.natAbs*(x/y).natAbs+1:=by
  obtain⟨a,o⟩:∃a,y.natAbs=a+1:=⟨y.natAbs-1,by omega⟩
  obtain⟨c,hc⟩:∃c,(x/y).natAbs=c+1:=⟨(x/y).natAbs-1,by omega⟩
  rw [o,hc,eE,dE];omega
 omega
theorem F3 (h:ln x≤N):ln (x/y)≤N+1:=a8 (a8 (fR (Z5 x y)) h) (Nat.le_succ _)
theorem F5 {nb:Nat}(hb:b≤w.heap.size)(hx:Zi w sa Aa na ca x)(la:na≤8589934591)(hy:Zi w sb Ab nb cb y)(lb:nb≤8589934591)(h0:y≠0):aQ aM 64 #[O sa Aa na ca,O sb Ab nb cb] w (Gv w (T3 (ZR b (x/y)) (ZR b (x%y)) (Is (no 0)))):=by
 refine Calls.mono (R:=Gv w (T3 (ZR w.heap.size (x/y)) (ZR w.heap.size (x%y)) (Is (no 0)))) ?_ (Gv.imp (T3.imp (ZR.imp hb) (ZR.imp hb) Is.imp));have Lx:=bP hx la;have Ly:=bP hy lb;refine bU Tryz.func64 42 J (sr (bx (a5 sa Aa na ca) bN J J J fun _ _ jv _ _ lu=>(fY (a5 sb Ab nb cb) lu jv.lt J J J fun g6 _ ez _ _ e8 me=>(bV [F0,S0] me ez.lt J fun en _ em fy _ ey md=>(bV [F0,S0] md em.lt J fun ew _ ef fp _ ct gb=>(aE 1 J (sr (lo aB (jv.ext (e8.t (ey.t ct))) (a5 sa Aa na ca) J J J (lo aB (ez.ext (ey.t ct)) (a5 sb Ab nb cb) J J J ?_)))))))));have fa:ln (x.tdiv y)≤8589934591:=a8 (jG _ _) Lx;have dh:ln (x.tmod y)≤8589934591:=a8 (tK _ _) Lx;refine aX gb (FJ gb.size (hx.ext gb) (aJ la J) (hy.ext gb) (aJ lb J) h0) J ?_;rintro _ _ ⟨_,_,_,rfl,⟨av,aw,ba,az,rfl,fe⟩,⟨M,L,U,V,rfl,cp⟩,rfl⟩ bp mb;refine mv 1 J (aA (O av aw ba az) J (aA (O M L U V) J (aA (no 0) J (bV [F0,S0] mb (ef.ext bp).lt J fun ga _ ig fq _ I mj=>(bV [F0,S0] mj ig.lt J fun ge _ kg fd _ H mg=>?_)))));have Z:=(ig.ext H);refine so aB Z (a5 av aw ba az) mg fq J J J J fun _ cz G lv=>?_;have Y:=(kg.vN G);refine so aB Y (a5 M L U V) lv fd J J J J fun _ ah o jy=>(aE 1 J (aD (aD ?_)));have lm:=Int.tdiv_mul_add_tmod x y;have ha:=nS (x:=x) h0;by_cases hk:0≤x.tmod y
 ·have hu:=FS (q:=x.tdiv y) (r:=x.tmod y) (x:=x) h0 lm hk;refine aK 1 J (aA (wk) J (mv 1 J (lo aB ah (a5 M L U V) J J J (aX jy (gR (((cp.ext (I.t H)).updT Z G).updT Y o).zi (cp.le (aJ dh J))) J ?_))));rintro _ lp rfl dt cj;refine aH J (V5 hk) (aA (we) J (aG (bC J (aD (f9 [(3,i5 g6 0),(4,i5 en 0),(5,i5 ew 0),(7,i5 ga 0),(8,i5 ge 0),(9,no 0)] (aP J) ?_)))));obtain⟨ke,hv,cv⟩:=gH lp;have W:=cj.trans cv;have ft:=((((em.ext (ct.t (bp.t (I.t H)))).vN G).vN o).ext (dt.t cv));obtain⟨lj,jf,kd,fc,_⟩:=gP (a5 av aw ba az) 0 aB ft (a5 av aw ba az) rfl;have h:=fc.ext W fy;have fo:=(((((ef.ext (bp.t (I.t H))).vN G).vN o).ext (dt.t cv)).vN fc);obtain⟨mf,jb,jj,gf,_⟩:=gP (a5 M L U V) 0 aB fo (a5 M L U V) rfl;have E:=gf.ext h fp;refine gJ cM ke [O av aw ba az,O M L U V,I0,undef,undef,I0] [ke,lj,mf] [3,4] [[],[],[],[0],[1],[2]] [(0,0),(1,0),(1,1),(2,0),(2,1),(2,2),(3,0),(4,1),(5,2)] J hv ?_ ?_
  ·exact aR J (cS J (bK aB ((cz.vN o).ext (dt.t cv)) (a5 av aw ba az) J (bq J) J)) (aR J (cS J (bK aB (ah.ext (dt.t cv)) (a5 M L U V) J (bq J) J)) (aR J (cS J (bK aB ((ah.ext (dt.t cv)).vN fc) (a5 M L U V) J (bq J) J)) (aR J (cC J) (aR J (cC J) (aR J (cC J) (fV _ J J J J J J (fQ J J jf) (fV _ J J J J J J (fQ J J jb) (aR J (kA J) gI))))))))
  refine fU [(3,i5 g6 0),(4,i5 en 0),(5,i5 ew 0),(7,i5 ga 0),(8,i5 ge 0),(6,no 0)] (aP J) (aL (bA (cI (aZ [O av aw ba az,O M L U V,I0] J ⟨⟨_,rfl,bK aB (kd.vN gf) (a5 av aw ba az) J (bq J) rfl⟩,⟨_,rfl,bK aB jj (a5 M L U V) J (bq J) rfl⟩,rfl,xl⟩ ?_))));exact⟨_,rfl,⟨_,_,_,rfl,⟨_,_,_,_,rfl,(((((((fe.ext (I.t H)).updT Z G).updT Y o).ext (dt.t cv)).updT ft fc).updT fo gf)).cast (hu.1)⟩,⟨_,_,_,_,rfl,(((((((cp.ext (I.t H)).updT Z G).updT Y o).ext (dt.t cv)).updT ft fc).updT fo gf)).cast (hu.2)⟩,rfl⟩,E⟩
 refine aK 1 J (aA (wk) J (mv 1 J (lo aB ah (a5 M L U V) J J J (aX jy (gR (((cp.ext (I.t H)).updT Z G).updT Y o).zi (cp.le (aJ dh J))) J ?_))));rintro _ _ rfl F cj;refine aH J (V6 i9) (aA (wk) J (aG (aT J (bB (aL (aD (aD ?_)))))));by_cases hp:0<y
 ·have hu:=FS (q:=x.tdiv y-1) (r:=x.tmod y+(Int.natAbs y:Int)) (x:=x) h0 (by rw [Int.sub_mul,Int.one_mul];omega) i9;refine bH (lo aB ((((ez.ext (ey.t (ct.t (bp.t (I.t H))))).vN G).vN o).ext F) (a5 sb Ab nb cb) J J J (aX cj (gR (hy.ext cj) (aJ lb J)) J ?_));rintro _ _ rfl cm W;refine aH J (AB hp) (aG (bC J ?_));have nj:ln ((x.tdiv y)-1)≤8589934592:=a8 (jY fa (show ln 1≤1 by decide+kernel)) yd;refine dW cM 3 [] [Is (O av aw ba az),ZR w.heap.size (1),ZR w.heap.size ((x.tdiv y)-1)] [[],[],[0,1]] rfl (cG J ?_ (cG J ?_ (cG J ?_ dN))) ?_
  ·exact fun _ ma=>aC (lo aB ((cz.vN o).ext (F.t (cm.t ma))) (a5 av aw ba az) J J J (aI J))
  ·intro _ ll;have h:=W.trans ll;refine aC (bI [no 1] h (OJ h.size) J ?_);rintro _ _ ⟨_,_,_,_,rfl,mc⟩ mh E;exact bQ J mh ⟨_,_,_,_,rfl,mc⟩
  ·intro _ iz;have h:=W.trans iz;refine aO J (aW J ?_);rintro _ _ ⟨_,_,_,_,rfl,ej⟩ _ mi;have ej:=ej.ext mi;refine aC ?_;have mx:ln ((x.tdiv y)-1)≤8589934592:=a8 (jY fa (show ln 1≤1 by decide+kernel)) yd;refine aX h (BK h.size ((((fe.ext (I.t H)).updT Z G).updT Y o).ext (F.t (cm.t iz))).zi (fe.le (aJ fa J)) ej.zi (ej.le (a8 (show ln 1≤1 by decide+kernel) yd))) J ?_;rintro _ _ ⟨_,_,_,_,rfl,kq⟩ ki E;exact bQ J ki ⟨_,_,_,_,rfl,kq⟩
  intro _ aq;have h:=W.trans aq;refine aO J (aW J ?_);rintro _ _ ⟨_,_,_,_,rfl,gg⟩ _ jd;have gg:=gg.ext jd;refine aW J ?_;rintro _ _ ⟨bf,bi,bj,bh,rfl,fw⟩ _ ku;have fw:=fw.ext ku;refine aC ?_;have dy:=((cz.vN o).ext (F.t (cm.t aq)));refine so aB dy (a5 bf bi bj bh) h fq J J J J fun _ ij bd E=>(cF (dM (aL (aD ?_))));have fi:ln ((Int.natAbs y:Int))≤8589934591:=(by rw [vL];exact Ly);have mz:ln ((x.tmod y)+(Int.natAbs y:Int))≤8589934592:=a8 (eK dh fi) yd;refine dW cM 4 [] [Is (O M L U V),Is (O sb Ab nb cb),ZR w.heap.size ((Int.natAbs y:Int)),ZR w.heap.size ((x.tmod y)+(Int.natAbs y:Int))] [[],[],[1],[0,2]] rfl (bY J ?_ ?_ ?_ ?_ dN) ?_
  ·exact fun _ kt=>aC (lo aB (((ah.ext (F.t (cm.t aq))).vN bd).ext kt) (a5 M L U V) J J J (aI J))
  ·exact fun _ kk=>aC (lo aB ((((((ez.ext (ey.t (ct.t (bp.t (I.t H))))).vN G).vN o).ext (F.t (cm.t aq))).vN bd).ext kk) (a5 sb Ab nb cb) J J J (aI J))
  ·intro _ jg;have f:=E.trans jg;refine aO J (aC ?_);have mp:ln ((Int.natAbs y:Int))≤8589934591:=(by rw [vL];exact Ly);refine aX f (OM f.size (hy.ext f) (aJ lb J)) J ?_;rintro _ _ ⟨_,_,_,_,rfl,jm⟩ kx bw;exact bQ J kx ⟨_,_,_,_,rfl,jm⟩
  ·intro _ gx;have f:=E.trans gx;refine aO J (aW J ?_);rintro _ _ ⟨_,_,_,_,rfl,el⟩ _ jr;have el:=el.ext jr;refine aC ?_;have mt:ln ((x.tmod y)+(Int.natAbs y:Int))≤8589934592:=a8 (eK dh fi) yd;refine aX f (qR f.size ((((((cp.ext (I.t H)).updT Z G).updT Y o).ext (F.t (cm.t aq))).updT dy bd).ext gx).zi (cp.le (aJ dh J)) el.zi (el.le (aJ fi J))) J ?_;rintro _ _ ⟨_,_,_,_,rfl,jz⟩ jq bw;exact bQ J jq ⟨_,_,_,_,rfl,jz⟩
  intro _ ci;have f:=E.trans ci;refine aY J (aW J ?_);rintro _ _ ⟨_,_,_,_,rfl,ib⟩ _ kv;have ib:=ib.ext kv;refine aW J ?_;rintro _ _ ⟨am,ab,ae,aj,rfl,fj⟩ _ kn;have fj:=fj.ext kn;refine aC ?_;have du:=(((ah.ext (F.t (cm.t aq))).vN bd).ext ci);refine so aB du (a5 am ab ae aj) f fd J J J J fun kz fb de bw=>(cF (dM (aL (aD (f9 [(4,i5 en 0),(5,i5 ew 0),(7,i5 ga 0),(8,i5 ge 0)] (aP J) ?_)))));obtain⟨gk,hv,aa⟩:=gH kz;have fh:=bw.trans aa;have dz:=((((((((em.ext (ct.t (bp.t (I.t H)))).vN G).vN o).ext (F.t (cm.t aq))).vN bd).ext ci).vN de).ext aa);obtain⟨jc,ik,io,da,_⟩:=gP (a5 bf bi bj bh) 0 aB dz (a5 bf bi bj bh) rfl;have fk:=da.ext fh fy;have dx:=(((((((((ef.ext (bp.t (I.t H))).vN G).vN o).ext (F.t (cm.t aq))).vN bd).ext ci).vN de).ext aa).vN da);obtain⟨lh,iw,ix,eh,_⟩:=gP (a5 am ab ae aj) 0 aB dx (a5 am ab ae aj) rfl;have fm:=eh.ext fk fp;refine gJ cM gk [O bf bi bj bh,O am ab ae aj,undef,undef,I0] [gk,jc,lh] [2,3] [[],[],[0],[1],[]] [(0,0),(1,0),(1,1),(2,0),(3,1),(4,2)] J hv ?_ ?_
  ·exact aR J (cS J (bK aB (((ij.ext ci).vN de).ext aa) (a5 bf bi bj bh) J (bq J) J)) (aR J (cS J (bK aB (fb.ext aa) (a5 am ab ae aj) J (bq J) J)) (aR J (cS J (bK aB ((fb.ext aa).vN da) (a5 am ab ae aj) J (bq J) J)) (fV _ J J J J J J (fQ J J ik) (fV _ J J J J J J (fQ J J iw) (aR J (kA J) gI)))))
  refine fU [(4,i5 en 0),(5,i5 ew 0),(6,no 0)] (aP J) (aL (bA (aZ [O bf bi bj bh,O am ab ae aj,I0] J ⟨⟨_,rfl,bK aB (io.vN eh) (a5 bf bi bj bh) J (bq J) rfl⟩,⟨_,rfl,bK aB ix (a5 am ab ae aj) J (bq J) rfl⟩,rfl,xl⟩ ?_)));exact⟨_,rfl,⟨_,_,_,rfl,⟨_,_,_,_,rfl,(((((((fw.updT dy bd).ext ci).updT du de).ext aa).updT dz da).updT dx eh)).cast (hu.1)⟩,⟨_,_,_,_,rfl,(((((fj.updT du de).ext aa).updT dz da).updT dx eh)).cast (hu.2)⟩,rfl⟩,fm⟩
 have hu:=FS (q:=x.tdiv y+1) (r:=x.tmod y+(Int.natAbs y:Int)) (x:=x) h0 (by rw [Int.add_mul,Int.one_mul];omega) i9;refine bH (lo aB ((((ez.ext (ey.t (ct.t (bp.t (I.t H))))).vN G).vN o).ext F) (a5 sb Ab nb cb) J J J (aX cj (gR (hy.ext cj) (aJ lb J)) J ?_));rintro _ _ rfl X W;refine aH J (AC) (aG (aT J ?_));have mn:ln ((x.tdiv y)+1)≤8589934592:=a8 (eK fa (show ln 1≤1 by decide+kernel)) yd;refine dW cM 3 [] [Is (O av aw ba az),ZR w.heap.size (1),ZR w.heap.size ((x.tdiv y)+1)] [[],[],[0,1]] rfl (cG J ?_ (cG J ?_ (cG J ?_ dN))) ?_
 ·exact fun _ ka=>aC (lo aB ((cz.vN o).ext (F.t (X.t ka))) (a5 av aw ba az) J J J (aI J))
 ·intro _ kw;have h:=W.trans kw;refine aC (bI [no 1] h (OJ h.size) J ?_);rintro _ _ ⟨_,_,_,_,rfl,jw⟩ ko E;exact bQ J ko ⟨_,_,_,_,rfl,jw⟩
 ·intro _ gi;have h:=W.trans gi;refine aO J (aW J ?_);rintro _ _ ⟨_,_,_,_,rfl,eg⟩ _ jo;have eg:=eg.ext jo;refine aC ?_;have mq:ln ((x.tdiv y)+1)≤8589934592:=a8 (eK fa (show ln 1≤1 by decide+kernel)) yd;refine aX h (qR h.size ((((fe.ext (I.t H)).updT Z G).updT Y o).ext (F.t (X.t gi))).zi (fe.le (aJ fa J)) eg.zi (eg.le (a8 (show ln 1≤1 by decide+kernel) yd))) J ?_;rintro _ _ ⟨_,_,_,_,rfl,kb⟩ ja E;exact bQ J ja ⟨_,_,_,_,rfl,kb⟩
 intro _ au;have h:=W.trans au;refine aO J (aW J ?_);rintro _ _ ⟨_,_,_,_,rfl,gy⟩ _ jx;have gy:=gy.ext jx;refine aW J ?_;rintro _ _ ⟨br,bm,bu,bo,rfl,fg⟩ _ jt;have fg:=fg.ext jt;refine aC ?_;have dr:=((cz.vN o).ext (F.t (X.t au)));refine so aB dr (a5 br bm bu bo) h fq J J J J fun _ il bg E=>(cF (dM (aL (aD ?_))));have fv:ln ((Int.natAbs y:Int))≤8589934591:=(by rw [vL];exact Ly);have mw:ln ((x.tmod y)+(Int.natAbs y:Int))≤8589934592:=a8 (eK dh fv) yd;refine dW cM 4 [] [Is (O M L U V),Is (O sb Ab nb cb),ZR w.heap.size ((Int.natAbs y:Int)),ZR w.heap.size ((x.tmod y)+(Int.natAbs y:Int))] [[],[],[1],[0,2]] rfl (bY J ?_ ?_ ?_ ?_ dN) ?_
 ·exact fun _ jh=>aC (lo aB (((ah.ext (F.t (X.t au))).vN bg).ext jh) (a5 M L U V) J J J (aI J))
 ·exact fun _ kf=>aC (lo aB ((((((ez.ext (ey.t (ct.t (bp.t (I.t H))))).vN G).vN o).ext (F.t (X.t au))).vN bg).ext kf) (a5 sb Ab nb cb) J J J (aI J))
 ·intro _ ky;have f:=E.trans ky;refine aO J (aC ?_);have mr:ln ((Int.natAbs y:Int))≤8589934591:=(by rw [vL];exact Ly);refine aX f (OM f.size (hy.ext f) (aJ lb J)) J ?_;rintro _ _ ⟨_,_,_,_,rfl,ju⟩ kc bw;exact bQ J kc ⟨_,_,_,_,rfl,ju⟩
 ·intro _ go;have f:=E.trans go;refine aO J (aW J ?_);rintro _ _ ⟨_,_,_,_,rfl,ei⟩ _ ji;have ei:=ei.ext ji;refine aC ?_;have mu:ln ((x.tmod y)+(Int.natAbs y:Int))≤8589934592:=a8 (eK dh fv) yd;refine aX f (qR f.size ((((((cp.ext (I.t H)).updT Z G).updT Y o).ext (F.t (X.t au))).updT dr bg).ext go).zi (cp.le (aJ dh J)) ei.zi (ei.le (aJ fv J))) J ?_;rintro _ _ ⟨_,_,_,_,rfl,ks⟩ jl bw;exact bQ J jl ⟨_,_,_,_,rfl,ks⟩
 intro _ ch;have f:=E.trans ch;refine aY J (aW J ?_);rintro _ _ ⟨_,_,_,_,rfl,ie⟩ _ jp;have ie:=ie.ext jp;refine aW J ?_;rintro _ _ ⟨ak,ar,ag,ai,rfl,fx⟩ _ kp;have fx:=fx.ext kp;refine aC ?_;have dl:=(((ah.ext (F.t (X.t au))).vN bg).ext ch);refine so aB dl (a5 ak ar ag ai) f fd J J J J fun kj fz df bw=>(cF (dM (aL (aD (f9 [(4,i5 en 0),(5,i5 ew 0),(7,i5 ga 0),(8,i5 ge 0)] (aP J) ?_)))));obtain⟨ia,hv,ao⟩:=gH kj;have fh:=bw.trans ao;have dm:=((((((((em.ext (ct.t (bp.t (I.t H)))).vN G).vN o).ext (F.t (X.t au))).vN bg).ext ch).vN df).ext ao);obtain⟨kr,ir,iq,dg,_⟩:=gP (a5 br bm bu bo) 0 aB dm (a5 br bm bu bo) rfl;have fk:=dg.ext fh fy;have dw:=(((((((((ef.ext (bp.t (I.t H))).vN G).vN o).ext (F.t (X.t au))).vN bg).ext ch).vN df).ext ao).vN dg);obtain⟨je,iy,iu,ee,_⟩:=gP (a5 ak ar ag ai) 0 aB dw (a5 ak ar ag ai) rfl;have fm:=ee.ext fk fp;refine gJ cM ia [O br bm bu bo,O ak ar ag ai,undef,undef,I0] [ia,kr,je] [2,3] [[],[],[0],[1],[]] [(0,0),(1,0),(1,1),(2,0),(3,1),(4,2)] J hv ?_ ?_
 ·exact aR J (cS J (bK aB (((il.ext ch).vN df).ext ao) (a5 br bm bu bo) J (bq J) J)) (aR J (cS J (bK aB (fz.ext ao) (a5 ak ar ag ai) J (bq J) J)) (aR J (cS J (bK aB ((fz.ext ao).vN dg) (a5 ak ar ag ai) J (bq J) J)) (fV _ J J J J J J (fQ J J ir) (fV _ J J J J J J (fQ J J iy) (aR J (kA J) gI)))))
 refine fU [(4,i5 en 0),(5,i5 ew 0),(6,no 0)] (aP J) (aL (bA (aZ [O br bm bu bo,O ak ar ag ai,I0] J ⟨⟨_,rfl,bK aB (iq.vN ee) (a5 br bm bu bo) J (bq J) rfl⟩,⟨_,rfl,bK aB iu (a5 ak ar ag ai) J (bq J) rfl⟩,rfl,xl⟩ ?_)));exact⟨_,rfl,⟨_,_,_,rfl,⟨_,_,_,_,rfl,(((((((fg.updT dr bg).ext ch).updT dl df).ext ao).updT dm dg).updT dw ee)).cast (hu.1)⟩,⟨_,_,_,_,rfl,(((((fx.updT dl df).ext ao).updT dm dg).updT dw ee)).cast (hu.2)⟩,rfl⟩,fm⟩
theorem a0s {nb:Nat}(hb:b≤w.heap.size)(hx:Zi w sa Aa na ca x)(la:na≤8589934591)(hy:Zi w sb Ab nb cb y)(lb:nb≤8589934591)(h0:y≠0):aQ aM 70 #[O sa Aa na ca,O sb Ab nb cb] w (Gv w (T2 (ZR b (x%y)) (Is (no 0)))):=by
 refine Calls.mono (R:=Gv w (T2 (ZR w.heap.size (x%y)) (Is (no 0)))) ?_ (Gv.imp (T2.imp (ZR.imp hb) Is.imp));have Lx:=bP hx la;have Ly:=bP hy lb;refine bU Tryz.func70 18 J (sr (bx (a5 sa Aa na ca) bN J J J fun _ _ aj _ _ bh=>(fY (a5 sb Ab nb cb) bh aj.lt J J J fun _ _ ag _ _ e8 bd=>(bV [F0,S0] bd ag.lt J fun _ _ H X _ Z G=>(aE 1 J (sr (lo aB (aj.ext (e8.t Z)) (a5 sa Aa na ca) J J J (lo aB (ag.ext Z) (a5 sb Ab nb cb) J J J ?_))))))));have bo:ln (x/y)≤8589934592:=F3 Lx;have bp:ln (x%y)≤8589934591:=a8 (tL (h:=h0)) Ly;refine aX G (F5 G.size (hx.ext G) (aJ la J) (hy.ext G) (aJ lb J) h0) J ?_;rintro _ _ ⟨_,_,_,rfl,⟨aq,Y,ai,am,rfl,_⟩,⟨E,o,f,F,rfl,bf⟩,rfl⟩ ab bg;refine mv 1 J (aA (O aq Y ai am) J (aA (O E o f F) J (aA (no 0) J (bV [F0,S0] bg (H.ext ab).lt J fun _ _ I aa _ au ba=>(bV [F0,S0] ba I.lt J fun _ _ ar ae _ W av=>?_)))));have M:=(I.ext W);refine so aB M (a5 aq Y ai am) av aa J J J J fun _ _ V bj=>?_;have U:=(ar.vN V);refine so aB U (a5 E o f F) bj ae J J J J fun _ ao ak aw=>(aE 1 J (sr (lo aB ao (a5 E o f F) J J J (mv 1 J ?_))));have L:=(((H.ext (ab.t (au.t W))).vN V).vN ak);refine so aB L (a5 E o f F) aw X J J J J fun _ ah az bi=>(aE 1 J (bA (aZ [O E o f F,I0] J ⟨⟨_,rfl,bK aB ah (a5 E o f F) J (bq J) rfl⟩,rfl,xl⟩ ?_)));exact⟨_,rfl,⟨_,_,rfl,⟨_,_,_,_,rfl,((((bf.ext (au.t W)).updT M V).updT U ak).updT L az)⟩,rfl⟩,bi⟩
theorem BJ {nb:Nat}(hb:b≤w.heap.size)(hx:Zi w sa Aa na ca x)(la:na≤8589934591)(hy:Zi w sb Ab nb cb y)(lb:nb≤8589934591):aQ aM 55 #[O sa Aa na ca,O sb Ab nb cb] w (Gv w (ZR b ((Int.gcd x y:Int)))):=by
 refine Calls.mono (R:=Gv w (ZR w.heap.size ((Int.gcd x y:Int)))) ?_ (Gv.imp (ZR.imp hb));have Lx:=bP hx la;have Ly:=bP hy lb;refine bU Tryz.func55 13 J (sr (bx (a5 sa Aa na ca) bN J J J fun g1 _ U _ _ ae=>(fY (a5 sb Ab nb cb) ae U.lt J J J fun g6 _ M _ _ e8 aa=>(bV [F0,S0] aa M.lt J fun _ _ H G _ I f=>(aG (sr (pf g1 1 J (bG (cE dY (U.ext (e8.t I)) J) J (pf g6 1 J (bG (cE dY (M.ext I) J) J ?_))))))))));have aj:(wd (Nat.gcd (Int.natAbs x) (Int.natAbs y))).length≤8589934591:=a8 (nC x y) (Nat.max_le.2 ⟨Lx,Ly⟩);refine bI [up Aa na ca,up Ab nb cb] f (a09 f.size (hx.ext f).wi (aJ la J) (hy.ext f).wi (aJ lb J)) J ?_;rintro _ _ ⟨h,E,o,rfl,Z,W⟩ X ab;refine aE 1 J (aV 1 J (aA (.agg #[F0,up h E o]) J ?_));have F:=(H.ext X);refine so aB F [F0,up h E o] ab G J J J J fun _ L V Y=>(aG (bA (aZ [.agg #[F0,up h E o]] J ⟨⟨_,rfl,bK aB L [F0,up h E o] J (bq J) rfl⟩,xl⟩ ?_)));exact⟨_,rfl,⟨_,_,_,_,rfl,(((sI Z W).updT F V)).cast (J)⟩,Y⟩
def jW (x y:Int):Int:=if y<0 then-(Int.gcd x y:Int) else (Int.gcd x y:Int)
def bW (x y:Int):Int:=if y=0 then 0 else x.tdiv (jW x y)
def cD (x y:Int):Int:=if y=0 then 0 else y.tdiv (jW x y)
def bR (y:Int):Int:=if y=0 then 4 else 0
theorem AU (x y:Int):(jW x y).natAbs=Int.gcd x y:=by unfold jW;split <;> omega
theorem xL (h:y≠0):jW x y≠0:=by
 have h1:=AU x y;have h2:=Int.gcd_pos_of_ne_zero_right x h;omega
theorem EM (x y:Int):x.natAbs%(jW x y).natAbs=0:=by rw [AU];exact Nat.mod_eq_zero_of_dvd (Int.gcd_dvd_natAbs_left x y)
theorem EL (x y:Int):y.natAbs%(jW x y).natAbs=0:=by rw [AU];exact Nat.mod_eq_zero_of_dvd (Int.gcd_dvd_natAbs_right x y)
theorem gY (hx:ln x≤N):ln (bW x y)≤N:=by
 unfold bW;split
 ·exact bX _
 exact a8 (jG _ _) hx
theorem i6 (hy:ln y≤N):ln (cD x y)≤N:=by
 unfold cD;split
 ·exact bX _
 exact a8 (jG _ _) hy
theorem NK (hb:b≤w.heap.size)(hx:Zi w sa Aa na ca x)(la:na≤8589934591):aQ aM 56 #[O sa Aa na ca] w (Gv w (ZR b (-x))):=by
 refine Calls.mono (R:=Gv w (ZR w.heap.size (-x))) ?_ (Gv.imp (ZR.imp hb));have Lx:=bP hx la;refine bU Tryz.func56 9 J (sr (bx (a5 sa Aa na ca) bN J J J fun g1 _ h _ _ X=>(bV [F0,S0] X h.lt J fun _ _ Z L _ e8 F=>(aG (sr (pf g1 0 J (bG (cE eW (h.ext e8) J) J (aA (.bool (!sa)) J (pf g1 1 J (bG (cE dY (h.ext e8) J) J ?_))))))))));have ae:ln (sg (!sa) (Int.natAbs x))≤8589934591:=by rw [kC];exact Lx
 refine bI [.bool (!sa),up Aa na ca] F (l8 F.size (hx.ext F).wi (aJ la J)) J ?_;rintro _ _ ⟨o,H,E,G,rfl,Y⟩ M V;have f:=(Z.ext M);refine so aB f (a5 o H E G) V L J J J J fun _ I U W=>(aG (bA (aZ [O o H E G] J ⟨⟨_,rfl,bK aB I (a5 o H E G) J (bq J) rfl⟩,xl⟩ ?_)));exact⟨_,rfl,⟨_,_,_,_,rfl,((Y.updT f U)).cast ((zX _ _).trans (by rw [hx.sg]))⟩,W⟩
theorem rL {nb:Nat}(hb:b≤w.heap.size)(hx:Zi w sa Aa na ca x)(la:na≤1073741824)(hy:Zi w sb Ab nb cb y)(lb:nb≤1073741824):aQ aM 18 #[O sa Aa na ca,O sb Ab nb cb] w (Gv w (T2 (FR b (bW x y) (cD x y)) (Is (no (bR y))))):=by
 refine Calls.mono (R:=Gv w (T2 (FR w.heap.size (bW x y) (cD x y)) (Is (no (bR y))))) ?_ (Gv.imp (T2.imp (FR.imp hb) Is.imp));have Lx:=bP hx la;have Ly:=bP hy lb;refine bU Tryz.func18 39 J (sr (bx (a5 sa Aa na ca) bN J J J fun _ _ ct _ _ gx=>(fY (a5 sb Ab nb cb) gx ct.lt J J J fun _ _ bd _ _ e8 go=>(bV [F0,S0,F0,S0] go bd.lt J fun _ _ Z ci _ M fp=>(aE 1 J (sr (lo aB (bd.ext M) (a5 sb Ab nb cb) J J J (aX fp (gR (hy.ext fp) (aJ lb J)) J ?_))))))));rintro _ _ rfl f U;refine aE 1 J (aD (aD ?_));by_cases h0:y=0
 ·refine aK 1 J (aH J (DV h0) (aG (bC J (sr (aA (.agg #[F0,S0,F0,S0]) J ?_)))));refine so bJ (Z.ext f) [F0,S0,F0,S0] U ci J J J J fun fi fx _ cp=>(aE 1 J (bA (cI (aZ [.agg #[F0,S0,F0,S0],no 4] J ⟨⟨_,rfl,bK bJ fx [F0,S0,F0,S0] J (bq J) rfl⟩,rfl,xl⟩ ?_))));exact⟨_,rfl,⟨_,_,rfl,⟨_,_,_,_,_,_,_,_,rfl,((Zr.zero (w:=fi) (base:=w.heap.size))).cast (by simp only [bW,cD,if_pos h0]),((Zr.zero (w:=fi) (base:=w.heap.size))).cast (by simp only [bW,cD,if_pos h0])⟩,(show (no 4:aF)=_ by simp only [bR,if_pos h0])⟩,cp⟩
 by_cases hs:y<0
 ·have hG: -(Int.gcd x y:Int)=jW x y:=by unfold jW;rw [if_pos hs]
  refine aK 1 J (aH J (uY h0) (aG (aT J (bB (aL (sr (lo aB (ct.ext (e8.t (M.t f))) (a5 sa Aa na ca) J J J (lo aB (bd.ext (M.t f)) (a5 sb Ab nb cb) J J J ?_))))))));have fk:ln ((Int.gcd x y:Int))≤1073741824:=a8 (nC _ _) (Nat.max_le.2 ⟨a8 Lx yd,a8 Ly yd⟩);refine aX U (BJ U.size (hx.ext U) (aJ la J) (hy.ext U) (aJ lb J)) J ?_;rintro _ _ ⟨fw,fz,ge,fy,rfl,fm⟩ dh cp;refine bV [F0,S0] cp (Z.ext (f.t dh)).lt J fun _ _ dz dy _ dw fa=>(so aB dz (a5 fw fz ge fy) fa dy J J J J fun _ ef du bf=>(aG (aD (aV 1 J (aH J (tB hs) (aG (bC J (bH (lo aB ef (a5 fw fz ge fy) J J J ?_)))))))));have gb:ln (-(Int.gcd x y:Int))≤1073741824:=by rw [gQ];exact fk
  refine aX bf (NK bf.size ((fm.ext dw).updT dz du).zi (fm.le (aJ fk J))) J ?_;rintro _ _ ⟨ej,fb,em,fd,rfl,de⟩ df ey;have cm:=(ef.ext df);refine so aB cm (a5 ej fb em fd) ey dy J J J J fun _ bu cv da=>(aG (sr (lo aB ((((ct.ext (e8.t (M.t (f.t (dh.t dw))))).vN du).ext df).vN cv) (a5 sa Aa na ca) J J J (lo aB bu (a5 ej fb em fd) J J J ?_))));have ie:ln (x.tdiv (-(Int.gcd x y:Int)))≤1073741824:=a8 (jG _ _) Lx;refine aX da (BL da.size (hx.ext da) (aJ la J) (de.updT cm cv).zi (de.le (aJ gb J)) (by rw [hG];exact xL h0) (by rw [hG];exact EM x y)) J ?_;rintro _ _ ⟨_,_,rfl,⟨ae,aq,ar,ai,rfl,gj⟩,rfl⟩ bw aa;refine mv 1 J (aA (O ae aq ar ai) J (aA (no 0) J (bV [F0,S0] aa (bu.ext bw).lt J fun _ _ br fv _ bj cz=>(so aB br (a5 ae aq ar ai) cz fv J J J J fun _ dx cj Y=>(aE 1 J (sr (lo aB ((((((bd.ext (M.t (f.t (dh.t dw)))).vN du).ext df).vN cv).ext (bw.t bj)).vN cj) (a5 sb Ab nb cb) J J J (lo aB ((bu.ext (bw.t bj)).vN cj) (a5 ej fb em fd) J J J ?_))))))));have ib:ln (y.tdiv (-(Int.gcd x y:Int)))≤1073741824:=a8 (jG _ _) Ly;refine aX Y (BL Y.size (hy.ext Y) (aJ lb J) (((de.updT cm cv).ext (bw.t bj)).updT br cj).zi (de.le (aJ gb J)) (by rw [hG];exact xL h0) (by rw [hG];exact EL x y)) J ?_;rintro _ _ ⟨_,_,rfl,⟨ag,aj,ak,ao,rfl,gk⟩,rfl⟩ dg bh;refine mv 1 J (aA (O ag aj ak ao) J (aA (no 0) J (bV [F0,S0] bh (dx.ext dg).lt J fun _ _ bp gf _ dl bm=>(so aB bp (a5 ag aj ak ao) bm gf J J J J fun _ fh dm ga=>(aE 1 J (sr (lo aB ((dx.ext (dg.t dl)).vN dm) (a5 ae aq ar ai) J J J (lo aB fh (a5 ag aj ak ao) J J J (aA (a9 ae aq ar ai ag aj ak ao) J ?_)))))))));have ch:=((((((((Z.ext (f.t (dh.t dw))).vN du).ext df).vN cv).ext (bw.t bj)).vN cj).ext (dg.t dl)).vN dm);refine so bJ ch [.bool ae,up aq ar ai,.bool ag,up aj ak ao] ga ci J J J J fun _ fq fj ft=>(aE 1 J (bA (aZ [a9 ae aq ar ai ag aj ak ao,I0] J ⟨⟨_,rfl,bK bJ fq [.bool ae,up aq ar ai,.bool ag,up aj ak ao] J (bq J) rfl⟩,rfl,xl⟩ ?_)));exact⟨_,rfl,⟨_,_,rfl,⟨_,_,_,_,_,_,_,_,rfl,((((((gj.ext bj).updT br cj).ext (dg.t dl)).updT bp dm).updT ch fj)).cast (by simp only [bW,cD,if_neg h0,hG]),((((gk.ext dl).updT bp dm).updT ch fj)).cast (by simp only [bW,cD,if_neg h0,hG])⟩,(show (no 0:aF)=_ by simp only [bR,if_neg h0])⟩,ft⟩
 have hG:(Int.gcd x y:Int)=jW x y:=by unfold jW;rw [if_neg hs]
 refine aK 1 J (aH J (uY h0) (aG (aT J (bB (aL (sr (lo aB (ct.ext (e8.t (M.t f))) (a5 sa Aa na ca) J J J (lo aB (bd.ext (M.t f)) (a5 sb Ab nb cb) J J J ?_))))))));have gg:ln ((Int.gcd x y:Int))≤1073741824:=a8 (nC _ _) (Nat.max_le.2 ⟨a8 Lx yd,a8 Ly yd⟩);refine aX U (BJ U.size (hx.ext U) (aJ la J) (hy.ext U) (aJ lb J)) J ?_;rintro _ _ ⟨eh,ez,el,eg,rfl,dr⟩ dt cp;refine bV [F0,S0] cp (Z.ext (f.t dt)).lt J fun _ _ bo fc _ eP fa=>(so aB bo (a5 eh ez el eg) fa fc J J J J fun _ am ab bf=>(aG (aD (aV 1 J (aH J (tC) (aG (aT J (bB (aL (sr (lo aB ((ct.ext (e8.t (M.t (f.t (dt.t eP))))).vN ab) (a5 sa Aa na ca) J J J (lo aB am (a5 eh ez el eg) J J J ?_))))))))))));have gy:ln (x.tdiv (Int.gcd x y:Int))≤1073741824:=a8 (jG _ _) Lx;refine aX bf (BL bf.size (hx.ext bf) (aJ la J) ((dr.ext eP).updT bo ab).zi (dr.le (aJ gg J)) (by rw [hG];exact xL h0) (by rw [hG];exact EM x y)) J ?_;rintro _ _ ⟨_,_,rfl,⟨F,L,H,I,rfl,fo⟩,rfl⟩ X ey;refine mv 1 J (aA (O F L H I) J (aA (no 0) J (bV [F0,S0] ey (am.ext X).lt J fun _ _ ah fe _ W da=>(so aB ah (a5 F L H I) da fe J J J J fun _ bi V aa=>(aE 1 J (sr (lo aB ((((bd.ext (M.t (f.t (dt.t eP)))).vN ab).ext (X.t W)).vN V) (a5 sb Ab nb cb) J J J (lo aB ((am.ext (X.t W)).vN V) (a5 eh ez el eg) J J J ?_))))))));have ia:ln (y.tdiv (Int.gcd x y:Int))≤1073741824:=a8 (jG _ _) Ly;refine aX aa (BL aa.size (hy.ext aa) (aJ lb J) ((((dr.ext eP).updT bo ab).ext (X.t W)).updT ah V).zi (dr.le (aJ gg J)) (by rw [hG];exact xL h0) (by rw [hG];exact EL x y)) J ?_;rintro _ _ ⟨_,_,rfl,⟨h,E,G,o,rfl,fg⟩,rfl⟩ az cz;refine mv 1 J (aA (O h E G o) J (aA (no 0) J (bV [F0,S0] cz (bi.ext az).lt J fun _ _ au ei _ aw Y=>(so aB au (a5 h E G o) Y ei J J J J fun _ ew ba bh=>(aE 1 J (sr (lo aB ((bi.ext (az.t aw)).vN ba) (a5 F L H I) J J J (lo aB ew (a5 h E G o) J J J (aA (a9 F L H I h E G o) J ?_)))))))));have av:=((((((Z.ext (f.t (dt.t eP))).vN ab).ext (X.t W)).vN V).ext (az.t aw)).vN ba);refine so bJ av [.bool F,up L H I,.bool h,up E G o] bh ci J J J J fun _ en ee bm=>(aE 1 J (bA (aZ [a9 F L H I h E G o,I0] J ⟨⟨_,rfl,bK bJ en [.bool F,up L H I,.bool h,up E G o] J (bq J) rfl⟩,rfl,xl⟩ ?_)));exact⟨_,rfl,⟨_,_,rfl,⟨_,_,_,_,_,_,_,_,rfl,((((((fo.ext W).updT ah V).ext (az.t aw)).updT au ba).updT av ee)).cast (by simp only [bW,cD,if_neg h0,hG]),((((fg.ext aw).updT au ba).updT av ee)).cast (by simp only [bW,cD,if_neg h0,hG])⟩,(show (no 0:aF)=_ by simp only [bR,if_neg h0])⟩,bm⟩
theorem EB {nb:Nat}{nd:Nat}(hx:Zi w sa Aa na ca x)(la:na≤268435456)(hy:Zi w sb Ab nb cb y)(lb:nb≤268435456)(hu:Zi w sd Ad nd cd u)(ld:nd≤268435456)(hv:Zi w se Ae ne ce v)(le:ne≤268435456)(hy0:y≠0)(hv0:v≠0):aQ aM 58 #[a9 sa Aa na ca sb Ab nb cb,a9 sd Ad nd cd se Ae ne ce] w (Gv w (Is (we))):=by
 have Lx:=bP hx la;have Ly:=bP hy lb;have Lu:=bP hu ld;have Lv:=bP hv le;refine bU Tryz.func58 15 J (sr (bx [.bool sa,up Aa na ca,.bool sb,up Ab nb cb] bN J J J fun L _ f _ _ G=>(fY [.bool sd,up Ad nd cd,.bool se,up Ae ne ce] G f.lt J J J fun M _ H _ _ I h=>(aE 1 J (sr (pf L 2 J (lo aB (f.ext I) (a5 sb Ab nb cb) J J J (aX h (gR (hy.ext h) (aJ lb J)) J ?_))))))));rintro _ _ rfl E o;refine aH J (qI hy0) (mv 1 J (pf M 2 J (lo aB (H.ext E) (a5 se Ae ne ce) J J J (aX o (gR (hv.ext o) (aJ le J)) J ?_))));rintro _ _ rfl _ F;refine aH J (qI hv0) (aA (we) J (aE 1 J (bA (aZ [we] J ⟨rfl,xl⟩ ?_))));exact⟨_,rfl,rfl,F⟩
theorem AO {nb:Nat}{nd:Nat}(hx:Zi w sa Aa na ca x)(la:na≤268435456)(hy:Zi w sb Ab nb cb y)(lb:nb≤268435456)(hu:Zi w sd Ad nd cd u)(ld:nd≤268435456)(hv:Zi w se Ae ne ce v)(le:ne≤268435456)(h0:y=0∨v=0):aQ aM 58 #[a9 sa Aa na ca sb Ab nb cb,a9 sd Ad nd cd se Ae ne ce] w (Gv w (Is (wk))):=by
 have Lx:=bP hx la;have Ly:=bP hy lb;have Lu:=bP hu ld;have Lv:=bP hv le;refine bU Tryz.func58 15 J (sr (bx [.bool sa,up Aa na ca,.bool sb,up Ab nb cb] bN J J J fun M _ o _ _ G=>(fY [.bool sd,up Ad nd cd,.bool se,up Ae ne ce] G o.lt J J J fun U _ H _ _ L f=>(aE 1 J (aD ?_)))));by_cases E:y=0
 ·refine bH (pf M 2 J (lo aB (o.ext L) (a5 sb Ab nb cb) J J J (aX f (gR (hy.ext f) (aJ lb J)) J ?_)));rintro _ _ rfl _ h;refine aH J (rJ E) (mv 5 J (aA (wk) J (aE 1 J (bA (aZ [F0] J ⟨rfl,xl⟩ ?_)))));exact⟨_,rfl,rfl,h⟩
 refine bH (pf M 2 J (lo aB (o.ext L) (a5 sb Ab nb cb) J J J (aX f (gR (hy.ext f) (aJ lb J)) J ?_)));rintro _ _ rfl I h;refine aH J (qI E) (mv 1 J (pf U 2 J (lo aB (H.ext I) (a5 se Ae ne ce) J J J (aX h (gR (hv.ext h) (aJ le J)) J ?_))));rintro _ _ rfl _ F;refine aH J (rJ i9) (aA (wk) J (aE 1 J (bA (aZ [F0] J ⟨rfl,xl⟩ ?_))));exact⟨_,rfl,rfl,F⟩
theorem L9 {nb:Nat}{nd:Nat}(hb:b≤w.heap.size)(hx:Zi w sa Aa na ca x)(la:na≤268435456)(hy:Zi w sb Ab nb cb y)(lb:nb≤268435456)(hu:Zi w sd Ad nd cd u)(ld:nd≤268435456)(hv:Zi w se Ae ne ce v)(le:ne≤268435456):aQ aM 19 #[a9 sa Aa na ca sb Ab nb cb,a9 sd Ad nd cd se Ae ne ce] w (Gv w (T2 (FR b (bW (x*v+u*y) (y*v)) (cD (x*v+u*y) (y*v))) (Is (no (bR (y*v)))))):=by
 refine Calls.mono (R:=Gv w (T2 (FR w.heap.size (bW (x*v+u*y) (y*v)) (cD (x*v+u*y) (y*v))) (Is (no (bR (y*v)))))) ?_ (Gv.imp (T2.imp (FR.imp hb) Is.imp));have Lx:=bP hx la;have Ly:=bP hy lb;have Lu:=bP hu ld;have Lv:=bP hv le;refine bU Tryz.func19 31 J (sr (bx [.bool sa,up Aa na ca,.bool sb,up Ab nb cb] bN J J J fun g1 _ W _ _ fk=>(fY [.bool sd,up Ad nd cd,.bool se,up Ae ne ce] fk W.lt J J J fun g6 _ I _ _ e8 fh=>(bV [F0,S0,F0,S0] fh I.lt J fun _ _ ak bh _ h o=>(aE 1 J (aD (aD ?_)))))));by_cases h0:y=0∨v=0
 ·have hz:y*v=0:=Int.mul_eq_zero.2 h0;refine bH (lo bJ (W.ext (e8.t h)) [.bool sa,up Aa na ca,.bool sb,up Ab nb cb] J J J (lo bJ (I.ext h) [.bool sd,up Ad nd cd,.bool se,up Ae ne ce] J J J (aX o (AO (hx.ext o) (aJ la J) (hy.ext o) (aJ lb J) (hu.ext o) (aJ ld J) (hv.ext o) (aJ le J) h0) J ?_)));rintro _ _ rfl fo M;refine aA (we) J (aG (bC J (sr (aA (.agg #[F0,S0,F0,S0]) J ?_))));refine so bJ (ak.ext fo) [F0,S0,F0,S0] M bh J J J J fun cz en _ cm=>(aE 1 J (bA (cI (aZ [.agg #[F0,S0,F0,S0],no 4] J ⟨⟨_,rfl,bK bJ en [F0,S0,F0,S0] J (bq J) rfl⟩,rfl,xl⟩ ?_))));exact⟨_,rfl,⟨_,_,rfl,⟨_,_,_,_,_,_,_,_,rfl,((Zr.zero (w:=cz) (base:=w.heap.size))).cast (by simp only [bW,cD,if_pos hz]),((Zr.zero (w:=cz) (base:=w.heap.size))).cast (by simp only [bW,cD,if_pos hz])⟩,(show (no 4:aF)=_ by simp only [bR,if_pos hz])⟩,cm⟩
 have fj:y≠0:=fun e=>h0 (cJ e);have fg:v≠0:=fun e=>h0 (cN e);refine bH (lo bJ (W.ext (e8.t h)) [.bool sa,up Aa na ca,.bool sb,up Ab nb cb] J J J (lo bJ (I.ext h) [.bool sd,up Ad nd cd,.bool se,up Ae ne ce] J J J (aX o (EB (hx.ext o) (aJ la J) (hy.ext o) (aJ lb J) (hu.ext o) (aJ ld J) (hv.ext o) (aJ le J) fj fg) J ?_)));rintro _ _ rfl E M;refine aA (wk) J (aG (aT J (bB (aL (sr (pf g6 0 J (lo aB (I.ext (h.t E)) (a5 sd Ad nd cd) J J J (pf g1 2 J (lo aB (W.ext (e8.t (h.t E))) (a5 sb Ab nb cb) J J J ?_)))))))));have cj:ln (u*y)≤536870912:=a8 (dI Lu Ly) yd;refine aX M (rZ M.size (hu.ext M) (aJ ld J) (hy.ext M) (aJ lb J)) J ?_;rintro _ _ ⟨ch,bw,br,ci,rfl,dy⟩ U cm;refine bV [F0,S0] cm (ak.ext (E.t U)).lt J fun _ _ av ei _ L fm=>(so aB av (a5 ch bw br ci) fm ei J J J J fun _ du V aq=>(aG (aD ?_)));have ct:ln (x*v+(u*y))≤536870913:=a8 (eK (dI Lx Lv) cj) yd;have cp:ln (y*v)≤536870912:=a8 (dI Ly Lv) yd;have fw:ln (bW (x*v+(u*y)) (y*v))≤536870913:=gY ct;have fx:ln (cD (x*v+(u*y)) (y*v))≤536870912:=i6 cp;refine dW cM 14 [12,13] [Is (i5 g1 0),Is (O sa Aa na ca),Is (i5 g6 2),Is (O se Ae ne ce),Is (O ch bw br ci),ZR w.heap.size (x*v+(u*y)),Is (i5 g1 2),Is (O sb Ab nb cb),Is (i5 g6 2),Is (O se Ae ne ce),ZR w.heap.size (y*v),T2 (FR w.heap.size (bW (x*v+(u*y)) (y*v)) (cD (x*v+(u*y)) (y*v))) (Is (no (bR (y*v)))),fun v' w'=>∃s0 A0 n0 c0 s1 A1 n1 c1,v'= a9 s0 A0 n0 c0 s1 A1 n1 c1∧Zr w' w.heap.size s0 A0 n0 c0 (bW (x*v+(u*y)) (y*v))∧Zr w' w.heap.size s1 A1 n1 c1 (cD (x*v+(u*y)) (y*v)),Is (no (bR (y*v)))] [[],[0],[],[2],[],[1,3,4],[],[6],[],[8],[7,9],[5,10],[11],[11]] rfl (bY J ?_ ?_ ?_ ?_ (bY J ?_ ?_ ?_ ?_ (bY J ?_ ?_ ?_ ?_ (gL J J (gM J ?_) (gL J J (gM J ?_) dN))))) ?_
 ·exact fun _ _=>aC (pf g1 0 J (aI J))
 ·exact fun _ fe=>aO J (aC (lo aB (((W.ext (e8.t (h.t (E.t (U.t L))))).vN V).ext fe) (a5 sa Aa na ca) J J J (aI J)))
 ·exact fun _ _=>aC (pf g6 2 J (aI J))
 ·exact fun _ fd=>aO J (aC (lo aB (((I.ext (h.t (E.t (U.t L)))).vN V).ext fd) (a5 se Ae ne ce) J J J (aI J)))
 ·exact fun _ iA=>aC (lo aB (du.ext iA) (a5 ch bw br ci) J J J (aI J))
 ·intro _ ey;have f:=aq.trans ey;refine aY J (aO J (aC ?_));have fy:ln (x*v+(u*y))≤536870913:=a8 (eK (dI Lx Lv) cj) yd;refine aX f (OL f.size (hx.ext f) (aJ la J) (hv.ext f) (aJ le J) (((dy.ext L).updT av V).ext ey).zi (dy.le (aJ cj J))) J ?_;rintro _ _ ⟨_,_,_,_,rfl,fc⟩ fp ar;exact bQ J fp ⟨_,_,_,_,rfl,fc⟩
 ·exact fun _ _=>aC (pf g1 2 J (aI J))
 ·exact fun _ ef=>aO J (aC (lo aB (((W.ext (e8.t (h.t (E.t (U.t L))))).vN V).ext ef) (a5 sb Ab nb cb) J J J (aI J)))
 ·exact fun _ _=>aC (pf g6 2 J (aI J))
 ·exact fun _ el=>aO J (aC (lo aB (((I.ext (h.t (E.t (U.t L)))).vN V).ext el) (a5 se Ae ne ce) J J J (aI J)))
 ·intro _ dg;have f:=aq.trans dg;refine aY J (aC ?_);have ft:ln (y*v)≤536870912:=a8 (dI Ly Lv) yd;refine aX f (rZ f.size (hy.ext f) (aJ lb J) (hv.ext f) (aJ le J)) J ?_;rintro _ _ ⟨_,_,_,_,rfl,eg⟩ dw ar;exact bQ J dw ⟨_,_,_,_,rfl,eg⟩
 ·intro _ dm;have f:=aq.trans dm;refine aW J ?_;rintro _ _ ⟨_,_,_,_,rfl,H⟩ _ fb;have H:=H.ext fb;refine aW J ?_;rintro _ _ ⟨_,_,_,_,rfl,G⟩ _ ew;have G:=G.ext ew;refine aC ?_;have fq:ln (bW (x*v+(u*y)) (y*v))≤536870913:=gY ct;have fv:ln (cD (x*v+(u*y)) (y*v))≤536870912:=i6 cp;refine aX f (rL f.size H.zi (H.le (aJ ct J)) G.zi (G.le (aJ cp J))) J ?_;rintro _ _ ⟨_,_,rfl,⟨_,_,_,_,_,_,_,_,rfl,ez,fa⟩,rfl⟩ em ar;exact bQ J em ⟨_,_,rfl,⟨_,_,_,_,_,_,_,_,rfl,ez,fa⟩,rfl⟩
 ·intro _ _;refine aW J ?_;rintro _ _ ⟨_,_,rfl,⟨cv,eh,de,dh,dt,ee,dl,da,rfl,aj,Z⟩,rfl⟩ _ bd;have aj:=aj.ext bd;have Z:=Z.ext bd;refine aC ?_;exact⟨a9 cv eh de dh dt ee dl da,rfl,rfl,fun _=>by kernel_rfl,⟨_,_,_,_,_,_,_,_,rfl,aj,Z⟩⟩
 ·intro _ _;refine aW J ?_;rintro _ _ ⟨_,_,rfl,⟨_,_,_,_,_,_,_,_,rfl,bf,bj⟩,rfl⟩ _ az;have bf:=bf.ext az;have bj:=bj.ext az;refine aC ?_;exact⟨no (bR (y*v)),rfl,rfl,fun _=>by kernel_rfl,rfl⟩
 intro _ bi;have f:=aq.trans bi;refine d6 J (aO J (aW J ?_));rintro _ _ ⟨_,_,_,_,rfl,aw⟩ _ dz;have aw:=aw.ext dz;refine d6 J (aW J ?_);rintro _ _ ⟨_,_,_,_,rfl,bp⟩ _ df;have bp:=bp.ext df;refine aW J ?_;rintro _ _ ⟨_,_,rfl,⟨_,_,_,_,_,_,_,_,rfl,bg,bm⟩,rfl⟩ _ ba;have bg:=bg.ext ba;have bm:=bm.ext ba;refine aW J ?_;rintro _ _ ⟨ah,ai,am,aa,Y,ao,ab,ag,rfl,X,ae⟩ _ au;have X:=X.ext au;have ae:=ae.ext au;refine aO J (aC ?_);have F:=(((ak.ext (E.t (U.t L))).vN V).ext bi);refine so bJ F [.bool ah,up ai am aa,.bool Y,up ao ab ag] f bh J J J J fun _ bu bo ar=>(bS 1 J (dM (aL (bA (aZ [a9 ah ai am aa Y ao ab ag,no (bR (y*v))] J ⟨⟨_,rfl,bK bJ bu [.bool ah,up ai am aa,.bool Y,up ao ab ag] J (bq J) rfl⟩,rfl,xl⟩ ?_)))));exact⟨_,rfl,⟨_,_,rfl,⟨_,_,_,_,_,_,_,_,rfl,((X.updT F bo)).cast (J),((ae.updT F bo)).cast (J)⟩,rfl⟩,ar⟩
theorem XN {nb:Nat}{nd:Nat}(hb:b≤w.heap.size)(hx:Zi w sa Aa na ca x)(la:na≤268435456)(hy:Zi w sb Ab nb cb y)(lb:nb≤268435456)(hu:Zi w sd Ad nd cd u)(ld:nd≤268435456)(hv:Zi w se Ae ne ce v)(le:ne≤268435456):aQ aM 21 #[a9 sa Aa na ca sb Ab nb cb,a9 sd Ad nd cd se Ae ne ce] w (Gv w (T2 (FR b (bW (x*u) (y*v)) (cD (x*u) (y*v))) (Is (no (bR (y*v)))))):=by
 refine Calls.mono (R:=Gv w (T2 (FR w.heap.size (bW (x*u) (y*v)) (cD (x*u) (y*v))) (Is (no (bR (y*v)))))) ?_ (Gv.imp (T2.imp (FR.imp hb) Is.imp));have Lx:=bP hx la;have Ly:=bP hy lb;have Lu:=bP hu ld;have Lv:=bP hv le;refine bU Tryz.func21 24 J (sr (bx [.bool sa,up Aa na ca,.bool sb,up Ab nb cb] bN J J J fun g1 _ ai _ _ eh=>(fY [.bool sd,up Ad nd cd,.bool se,up Ae ne ce] eh ai.lt J J J fun g6 _ Z _ _ e8 ee=>(bV [F0,S0,F0,S0] ee Z.lt J fun _ _ bg bf _ o h=>(aE 1 J (aD (aD ?_)))))));by_cases h0:y=0∨v=0
 ·have hz:y*v=0:=Int.mul_eq_zero.2 h0;refine bH (lo bJ (ai.ext (e8.t o)) [.bool sa,up Aa na ca,.bool sb,up Ab nb cb] J J J (lo bJ (Z.ext o) [.bool sd,up Ad nd cd,.bool se,up Ae ne ce] J J J (aX h (AO (hx.ext h) (aJ la J) (hy.ext h) (aJ lb J) (hu.ext h) (aJ ld J) (hv.ext h) (aJ le J) h0) J ?_)));rintro _ _ rfl em H;refine aA (we) J (aG (bC J (sr (aA (.agg #[F0,S0,F0,S0]) J ?_))));refine so bJ (bg.ext em) [F0,S0,F0,S0] H bf J J J J fun bw da _ f=>(aE 1 J (bA (cI (aZ [.agg #[F0,S0,F0,S0],no 4] J ⟨⟨_,rfl,bK bJ da [F0,S0,F0,S0] J (bq J) rfl⟩,rfl,xl⟩ ?_))));exact⟨_,rfl,⟨_,_,rfl,⟨_,_,_,_,_,_,_,_,rfl,((Zr.zero (w:=bw) (base:=w.heap.size))).cast (by simp only [bW,cD,if_pos hz]),((Zr.zero (w:=bw) (base:=w.heap.size))).cast (by simp only [bW,cD,if_pos hz])⟩,(show (no 4:aF)=_ by simp only [bR,if_pos hz])⟩,f⟩
 have eg:y≠0:=fun e=>h0 (cJ e);have dz:v≠0:=fun e=>h0 (cN e);refine bH (lo bJ (ai.ext (e8.t o)) [.bool sa,up Aa na ca,.bool sb,up Ab nb cb] J J J (lo bJ (Z.ext o) [.bool sd,up Ad nd cd,.bool se,up Ae ne ce] J J J (aX h (EB (hx.ext h) (aJ la J) (hy.ext h) (aJ lb J) (hu.ext h) (aJ ld J) (hv.ext h) (aJ le J) eg dz) J ?_)));rintro _ _ rfl aa H;refine aA (wk) J (aG (aT J (bB (aL (aD ?_)))));have bm:ln (x*u)≤536870912:=a8 (dI Lx Lu) yd;have bi:ln (y*v)≤536870912:=a8 (dI Ly Lv) yd;have fd:ln (bW (x*u) (y*v))≤536870912:=gY bm;have fb:ln (cD (x*u) (y*v))≤536870912:=i6 bi;refine dW cM 13 [11,12] [Is (i5 g1 0),Is (O sa Aa na ca),Is (i5 g6 0),Is (O sd Ad nd cd),ZR w.heap.size (x*u),Is (i5 g1 2),Is (O sb Ab nb cb),Is (i5 g6 2),Is (O se Ae ne ce),ZR w.heap.size (y*v),T2 (FR w.heap.size (bW (x*u) (y*v)) (cD (x*u) (y*v))) (Is (no (bR (y*v)))),fun v' w'=>∃s0 A0 n0 c0 s1 A1 n1 c1,v'= a9 s0 A0 n0 c0 s1 A1 n1 c1∧Zr w' w.heap.size s0 A0 n0 c0 (bW (x*u) (y*v))∧Zr w' w.heap.size s1 A1 n1 c1 (cD (x*u) (y*v)),Is (no (bR (y*v)))] [[],[0],[],[2],[1,3],[],[5],[],[7],[6,8],[4,9],[10],[10]] rfl (bY J ?_ ?_ ?_ ?_ (bY J ?_ ?_ ?_ ?_ (cG J ?_ (cG J ?_ (cG J ?_ (gL J J (gM J ?_) (gL J J (gM J ?_) dN))))))) ?_
 ·exact fun _ _=>aC (pf g1 0 J (aI J))
 ·exact fun _ en=>aO J (aC (lo aB (ai.ext (e8.t (o.t (aa.t en)))) (a5 sa Aa na ca) J J J (aI J)))
 ·exact fun _ _=>aC (pf g6 0 J (aI J))
 ·exact fun _ dw=>aO J (aC (lo aB (Z.ext (o.t (aa.t dw))) (a5 sd Ad nd cd) J J J (aI J)))
 ·intro _ dx;have f:=H.trans dx;refine aY J (aC ?_);have fc:ln (x*u)≤536870912:=a8 (dI Lx Lu) yd;refine aX f (rZ f.size (hx.ext f) (aJ la J) (hu.ext f) (aJ ld J)) J ?_;rintro _ _ ⟨_,_,_,_,rfl,ew⟩ dy aj;exact bQ J dy ⟨_,_,_,_,rfl,ew⟩
 ·exact fun _ _=>aC (pf g1 2 J (aI J))
 ·exact fun _ ei=>aO J (aC (lo aB (ai.ext (e8.t (o.t (aa.t ei)))) (a5 sb Ab nb cb) J J J (aI J)))
 ·exact fun _ _=>aC (pf g6 2 J (aI J))
 ·exact fun _ ej=>aO J (aC (lo aB (Z.ext (o.t (aa.t ej))) (a5 se Ae ne ce) J J J (aI J)))
 ·intro _ el;have f:=H.trans el;refine aY J (aC ?_);have ez:ln (y*v)≤536870912:=a8 (dI Ly Lv) yd;refine aX f (rZ f.size (hy.ext f) (aJ lb J) (hv.ext f) (aJ le J)) J ?_;rintro _ _ ⟨_,_,_,_,rfl,ci⟩ cv aj;exact bQ J cv ⟨_,_,_,_,rfl,ci⟩
 ·intro _ ct;have f:=H.trans ct;refine aW J ?_;rintro _ _ ⟨_,_,_,_,rfl,F⟩ _ de;have F:=F.ext de;refine aW J ?_;rintro _ _ ⟨_,_,_,_,rfl,G⟩ _ cm;have G:=G.ext cm;refine aC ?_;have fa:ln (bW (x*u) (y*v))≤536870912:=gY bm;have ey:ln (cD (x*u) (y*v))≤536870912:=i6 bi;refine aX f (rL f.size F.zi (F.le (aJ bm J)) G.zi (G.le (aJ bi J))) J ?_;rintro _ _ ⟨_,_,rfl,⟨_,_,_,_,_,_,_,_,rfl,bo,dl⟩,rfl⟩ bu aj;exact bQ J bu ⟨_,_,rfl,⟨_,_,_,_,_,_,_,_,rfl,bo,dl⟩,rfl⟩
 ·intro _ _;refine aW J ?_;rintro _ _ ⟨_,_,rfl,⟨br,cz,df,dg,dh,ch,cp,bp,rfl,U,M⟩,rfl⟩ _ av;have U:=U.ext av;have M:=M.ext av;refine aC ?_;exact⟨a9 br cz df dg dh ch cp bp,rfl,rfl,fun _=>by kernel_rfl,⟨_,_,_,_,_,_,_,_,rfl,U,M⟩⟩
 ·intro _ _;refine aW J ?_;rintro _ _ ⟨_,_,rfl,⟨_,_,_,_,_,_,_,_,rfl,am,aq⟩,rfl⟩ _ ar;have am:=am.ext ar;have aq:=aq.ext ar;refine aC ?_;exact⟨no (bR (y*v)),rfl,rfl,fun _=>by kernel_rfl,rfl⟩
 intro _ az;have f:=H.trans az;refine d6 J (aW J ?_);rintro _ _ ⟨_,_,_,_,rfl,ak⟩ _ cj;have ak:=ak.ext cj;refine d6 J (aW J ?_);rintro _ _ ⟨_,_,_,_,rfl,aw⟩ _ dm;have aw:=aw.ext dm;refine aW J ?_;rintro _ _ ⟨_,_,rfl,⟨_,_,_,_,_,_,_,_,rfl,au,ao⟩,rfl⟩ _ bd;have au:=au.ext bd;have ao:=ao.ext bd;refine aW J ?_;rintro _ _ ⟨W,V,Y,ae,L,I,ab,ah,rfl,ag,X⟩ _ bh;have ag:=ag.ext bh;have X:=X.ext bh;refine aO J (aC ?_);have E:=(bg.ext (aa.t az));refine so bJ E [.bool W,up V Y ae,.bool L,up I ab ah] f bf J J J J fun _ bj ba aj=>(bS 1 J (dM (aL (bA (aZ [a9 W V Y ae L I ab ah,no (bR (y*v))] J ⟨⟨_,rfl,bK bJ bj [.bool W,up V Y ae,.bool L,up I ab ah] J (bq J) rfl⟩,rfl,xl⟩ ?_)))));exact⟨_,rfl,⟨_,_,rfl,⟨_,_,_,_,_,_,_,_,rfl,(ag.updT E ba),(X.updT E ba)⟩,rfl⟩,aj⟩
@[irreducible] def iA:Nat:=1074
@[irreducible] def eP:Nat:=2098
@[irreducible] def iB:Nat:=1024
@[irreducible] def kD:Nat:=970
@[irreducible] def vU:Nat:=2045
@[irreducible] def mK:Nat:=2046
def rv (r:Nat):Nat:=if r<4503599627370496 then r else (4503599627370496+r%4503599627370496)*2^(r/4503599627370496-1)
theorem a3r (h:n≠0):dR (n*2^s)=dR n+s:=by
 refine GD ?_ (cN ?_)
 ·rw [eS];exact (Nat.mul_lt_mul_right (Nat.two_pow_pos s)).2 (rR n)
 have hb:dR n≠0:=fun e=>h (pZ.1 e);rw [show dR n+s-1=(dR n-1)+s by omega,eS];exact fC _ (C6 h)
theorem V9 (x y:Int):(x<y∧bM x y= -1)∨(x=y∧bM x y=0)∨(y<x∧bM x y=1):=by unfold bM;split <;> (try split) <;> omega
theorem zZ (x y z t:Int): -1≤bM x y*bM z t∧bM x y*bM z t≤1:=by
 rcases V9 x y with⟨_,e⟩ | ⟨_,e⟩ | ⟨_,e⟩ <;> rw [e] <;> have:=JQ z t <;> omega
theorem a1M {q r:Int}(h:Flo q r x y)(hy:y≠0):r.natAbs<y.natAbs:=by
 rcases Int.lt_or_gt_of_ne hy with h1 | h1
 ·have:=h.neg h1;omega
 have:=h.pos h1;omega
theorem ZY {q r:Int}(h:Flo q r x y)(hy:y≠0)(hx:ln x≤N)(hN:1≤N):ln q≤N+1:=by
 have h1:=a1M h hy;have h2:(q*y).natAbs≤x.natAbs+y.natAbs:=by have:=h.eq;omega
 rw [Int.natAbs_mul] at h2
 have f:q.natAbs≤x.natAbs+1:=by
  refine Nat.le_of_mul_le_mul_right (c:=y.natAbs) ?_ i9
  have:x.natAbs*1≤x.natAbs*y.natAbs:=gT _ i9
  rw [eE];omega
 refine a8 (fR (y:=(x.natAbs:Int)+1) i9) ?_;exact a8 (eK (by rw [vL];exact hx) (show ln 1≤1 by decide+kernel)) i9
theorem a3t (h:a≤b):dR a≤dR b:=u3 (lS h (rR b))
theorem ZL {p q p' q':Int}(h:Low p q x y)(h':Low p' q' x y):p=p'∧q=q':=by
 refine F1 h.co h'.co h.pos h'.pos ?_;have G:y≠0:=fun e=>by have:=h.nq;have:=h.pos;subst e;simp at*;omega
 have f:=h.eq;have E:=h'.eq;refine Int.eq_of_mul_eq_mul_right G ?_;have F:p*q'*y=(p*y)*q':=by grind
 have o:p'*q*y=(p'*y)*q:=by grind
 rw [F,o,f,E];grind
def vX:Nat→Int→Int→List Int
 | 0,_,_=> []
 | f+1,n,d=>if d=0 then [] else (n/d)::vX f d (n%d)
def eA (n d:Int):List Int:=vX d.toNat n d
theorem PX:∀{f g:Nat}{n d:Int},0≤d→d.toNat≤f→d.toNat≤g→vX f n d=vX g n d
 | 0,0,_,_,_,_,_=>rfl
 | 0,g+1,n,d,h,h1,_=>by
  have:d=0:=by omega
  subst this;rfl
 | f+1,0,n,d,h,_,h2=>by
  have:d=0:=by omega
  subst this;rfl
 | f+1,g+1,n,d,h,h1,h2=>by
  unfold vX
  split
  ·rfl
  ·rename_i h0
   have o:=kS n h0
   have hb:=lU n (show 0<d by omega)
   rw [PX (f:=f) (g:=g) o i9 i9]
theorem pY (n:Int):eA n 0= []:=rfl
theorem mN {n d:Int}(h:0<d):eA n d=(n/d)::eA d (n%d):=by
 have E:=kS n (show d≠0 by omega);have hb:=lU n h;obtain⟨k,o⟩:∃k,d.toNat=k+1:=⟨d.toNat-1,by omega⟩;unfold eA;rw [o,vX,if_neg i9,PX (f:=k) (g:=(n%d).toNat) E i9 (aU _)]
theorem yF {P:Int → Int → Prop}(h0 : ∀ n, P n 0)(hs : ∀ n d, 0 < d → P d (n % d) → P n d): ∀ (n d : Int), 0 ≤ d → P n d := by
 have key : ∀ (k : Nat) (n d : Int), 0 ≤ d → d.toNat ≤ k → P n d := by
   intro k
   induction k with
   | zero => intro n d h1 h2; have : d = 0 := by omega
             subst this; exact h0 n
   | succ k ih =>
     intro n d h1 h2
     by_cases hd : d = 0
     · subst hd; exact h0 n
     · have ha := kS n hd
       have hb := lU n (show 0 < d by omega)
       exact hs n d i9 (ih d (n % d) ha i9)
 exact fun n d h => key d.toNat n d h (aU _)
theorem a2Z:∀(n d:Int),0≤d→d<n→∀z,z∈eA n d→1≤z:=by
 refine yF (P:=fun n d=>d<n→∀z,z∈eA n d→1≤z) (fun n _ z f=>by rw [pY] at f;cases f) fun n d h ih _ z f=>?_;rw [mN h] at f;rcases List.mem_cons.1 f with rfl | f
 ·exact (Int.le_ediv_iff_mul_le h).2 i9
 exact ih (lU n h) z f
theorem a2X {n d:Int}(hd:0<d):∀z,z∈(eA n d).drop 1→1≤z:=by
 rw [mN hd];exact a2Z d (n%d) (kS n i9) (lU n hd)
theorem a21:∀(n d:Int),0≤d→0<d→d<n→1<(eA n d).getD ((eA n d).length-1) 0:=by
 refine yF (P:=fun n d=>0<d→d<n→1<(eA n d).getD ((eA n d).length-1) 0) (fun n h=>by omega) fun n d o ih _ _=>?_;rw [mN o];have F:=kS n (show d≠0 by omega);have hb:=lU n o;by_cases h0:n%d=0
 ·rw [h0,pY];show 1<n/d;have h1:=Int.mul_ediv_add_emod n d;rw [h0] at h1;refine Int.lt_of_not_ge fun hc=>?_;have h2:d*(n/d)≤d*1:=Int.mul_le_mul_of_nonneg_left hc i9;omega
 have:=ih i9 hb;have E:0<(eA d (n%d)).length:=by rw [mN i9];simp
 rw [fO,oF];obtain⟨k,f⟩:∃k,(eA d (n%d)).length=k+1:=⟨(eA d (n%d)).length-1,by omega⟩;rw [f,oF] at this;rw [f];exact this
theorem G4:∀(n d:Int),0≤d→(0<d∨0<n)→∃g:Int,0<g∧n=g*(nd (eA n d)).1∧d=g*(nd (eA n d)).2:=by
 refine yF (P:=fun n d=>(0<d∨0<n)→∃g:Int,0<g∧n=g*(nd (eA n d)).1∧d=g*(nd (eA n d)).2) (fun n h=>?_) fun n d f ih _=>?_
 ·rw [pY];exact⟨n,by omega,by show n=n*1;omega,by show 0=n*0;omega⟩
 obtain⟨g,hg,h1,h2⟩:=ih (cN f);have o:=Int.mul_ediv_add_emod n d;refine⟨g,hg,?_,?_⟩
 ·rw [mN f,AZ];generalize n/d=q at*;generalize n%d=r at*;generalize (nd (eA d r)).1=u at*;generalize (nd (eA d r)).2=v at*;rw [←o,h2,h1];grind
 rw [mN f,xO];exact h1
theorem a23:∀(n d:Int),0≤d→(0<d∨0<n)→∀k,∃n' d',(eA n d).drop k=eA n' d'∧0≤d'∧(0<d'∨0<n')∧n'.natAbs≤max n.natAbs d.natAbs∧d'.natAbs≤d.natAbs:=by
 refine yF (P:=fun n d=>(0<d∨0<n)→∀k,∃n' d',(eA n d).drop k=eA n' d'∧0≤d'∧(0<d'∨0<n')∧n'.natAbs≤max n.natAbs d.natAbs∧d'.natAbs≤d.natAbs) (fun n h k=>?_) fun n d f ih _ k=>?_
 ·exact⟨n,0,by rw [pY,List.drop_nil],by omega,h,by omega,by omega⟩
 cases k with
 | zero=>exact⟨n,d,rfl,by omega,cJ f,by omega,by omega⟩
 | succ k=>
  obtain⟨n',d',h1,h2,o,_,_⟩:=ih (cN f) k
  have E:=kS n (show d≠0 by omega)
  have hb:=lU n f
  exact⟨n',d',by rw [mN f,List.drop_succ_cons];exact h1,h2,o,by omega,by omega⟩
theorem a20 {n d:Int}(hd:0<d)(hn:ln n≤N)(hl:ln d≤N)(k:Nat):ln (nd ((eA n d).drop k)).1≤N∧ln (nd ((eA n d).drop k)).2≤N:=by
 obtain⟨n',d',h1,h2,f,_,_⟩:=a23 n d i9 (cJ hd) k;obtain⟨g,hg,o,E⟩:=G4 n' d' h2 f;rw [h1]
 have F:(nd (eA n' d')).1.natAbs≤n'.natAbs:=by
  have e:n'.natAbs=g.natAbs*(nd (eA n' d')).1.natAbs:=by rw [←Int.natAbs_mul,←o]
  rw [e];exact Nat.le_mul_of_pos_left _ i9
 have G:(nd (eA n' d')).2.natAbs≤d'.natAbs:=by
  have e:d'.natAbs=g.natAbs*(nd (eA n' d')).2.natAbs:=by rw [←Int.natAbs_mul,←E]
  rw [e];exact Nat.le_mul_of_pos_left _ i9
 have hm:∀z:Int,z.natAbs≤max n.natAbs d.natAbs→ln z≤N:=fun z _=>by
  rcases Nat.le_total n.natAbs d.natAbs with h | h
  ·exact a8 (fR i9) hl
  ·exact a8 (fR (y:=n) i9) hn
 exact⟨hm _ i9,hm _ i9⟩
theorem MY {n d:Int}(hd:0<d)(hn:ln n≤N)(hN:1≤N):ln (n/d)≤N+1:=by
 have h1:=Int.mul_ediv_add_emod n d;have h2:=kS n (show d≠0 by omega);have f:=lU n hd;exact ZY (y:=d) (r:=n%d) ⟨by rw [Int.mul_comm];exact h1,fun _=>⟨h2,f⟩,fun h=>by omega⟩ i9 hn hN
theorem G5:∀(n d:Int),0≤d→(eA n d).length≤2*dR d.natAbs:=by
 have key:∀(k:Nat) (n d:Int),0≤d→d.natAbs≤k→(eA n d).length≤2*dR d.natAbs:=by
  intro k
  induction k using Nat.strongRecOn with
  | _ k ih=>
   intro n d h0 hk
   by_cases hd:d=0
   ·subst hd;exact bX _
   ·have hdp:0<d:=by omega
    have ha:=kS n hd
    have hb:=lU n hdp
    have hb1:1≤dR d.natAbs:=by
     refine Nat.pos_of_ne_zero fun e=>?_
     have:=pZ.1 e;omega
    rw [mN hdp,fO]
    by_cases hr:n%d=0
    ·rw [hr,pY];simp;omega
    ·have hrp:0<n%d:=by omega
     have ha2:=kS d hr
     have hb2:=lU d hrp
     rw [mN hrp,fO]
     generalize n%d=r at*
     have hs:2*(d%r).natAbs<d.natAbs:=by
      have h1:=Int.mul_ediv_add_emod d r
      have h2:1≤d/r:=(Int.le_ediv_iff_mul_le hrp).2 i9
      have h3:r*1≤r*(d/r):=Int.mul_le_mul_of_nonneg_left h2 i9
      omega
     have h4:=ih (k-1) i9 r (d%r) ha2 i9
     have h5:dR (d%r).natAbs+1≤dR d.natAbs:=by
      by_cases h6:(d%r).natAbs=0
      ·rw [h6,pZ.2 rfl];omega
      ·have h7:=a3r (n:=(d%r).natAbs) (s:=1) h6
       rw [Nat.pow_one] at h7
       rw [←h7]
       exact a3t i9
     omega
 exact fun n d h=>key d.natAbs n d h (aU _)
theorem EK (h:y=0):bW x y=0:=if_pos h
theorem LW (h:y=0):cD x y=0:=if_pos h
theorem qK (h:y=0):bR y=4:=if_pos h
theorem oT (h:y≠0):bR y=0:=if_neg h
theorem oS (h:y≠0):Low (bW x y) (cD x y) x y:=by
 have hg:=xL (x:=x) h
 have hN:bW x y*jW x y=x:=by
  unfold bW;rw [if_neg h]
  exact Int.tdiv_mul_cancel (Int.natAbs_dvd_natAbs.1 (Nat.dvd_of_mod_eq_zero (EM x y)))
 have F:cD x y*jW x y=y:=by
  unfold cD;rw [if_neg h]
  exact Int.tdiv_mul_cancel (Int.natAbs_dvd_natAbs.1 (Nat.dvd_of_mod_eq_zero (EL x y)))
 have o:0<Int.gcd x y:=Int.gcd_pos_of_ne_zero_right x h;generalize bW x y=p at hN;generalize cD x y=q at F;have f:=AU x y;have hs:(0<jW x y↔0<y):=by unfold jW;split <;> omega
 generalize jW x y=g at*
 have L:0<q:=by
  rcases Int.lt_or_gt_of_ne h with H | H
  ·have E:g<0:=by omega
   rcases Int.lt_trichotomy 0 q with h1 | h1 | h1
   ·exact h1
   ·rw [←h1,Int.zero_mul] at F;omega
   ·have:=Int.mul_pos_of_neg_of_neg h1 E;omega
  ·have E:0<g:=hs.2 H
   rcases Int.lt_trichotomy 0 q with h1 | h1 | h1
   ·exact h1
   ·rw [←h1,Int.zero_mul] at F;omega
   ·have:=Int.mul_neg_of_neg_of_pos h1 E;omega
 refine⟨L,?_,?_,?_,?_⟩
 ·have G:Int.gcd (p*g) (q*g)=Int.gcd p q*g.natAbs:=Int.gcd_mul_right p g q;rw [hN,F,f] at G;have I:Int.gcd p q*Int.gcd x y=1*Int.gcd x y:=by rw [Nat.one_mul];exact G.symm
  exact Nat.eq_of_mul_eq_mul_right o I
 ·rw [←hN,←F];grind
 ·rw [←hN,Int.natAbs_mul,f];exact Nat.le_mul_of_pos_right _ o
 rw [←F,Int.natAbs_mul,f];exact Nat.le_mul_of_pos_right _ o
theorem F2 {p q:Int}(h:Low p q x y):y≠0∧p=bW x y∧q=cD x y:=by
 have f:y≠0:=fun e=>by have:=h.nq;have:=h.pos;subst e;simp at*;omega
 exact⟨f,h.uniq (oS f) f f rfl⟩
def l9 (x y u v:Int):Int:=if v=0 then 0 else bW (x*v) (y*u)
def lB (x y u v:Int):Int:=if v=0 then 0 else cD (x*v) (y*u)
def lA (y u v:Int):Int:=if v=0 then 4 else bR (y*u)
theorem VB (h:y=0):bM (bW x y) 0=0:=by rw [EK h];rfl
theorem L6 {nb:Nat}{nd:Nat}(hb:b≤w.heap.size)(hx:Zi w sa Aa na ca x)(la:na≤268435456)(hy:Zi w sb Ab nb cb y)(lb:nb≤268435456)(hu:Zi w sd Ad nd cd u)(ld:nd≤268435456)(hv:Zi w se Ae ne ce v)(le:ne≤268435456):aQ aM 20 #[a9 sa Aa na ca sb Ab nb cb,a9 sd Ad nd cd se Ae ne ce] w (Gv w (T2 (FR b (bW (x*v+ -u*y) (y*v)) (cD (x*v+ -u*y) (y*v))) (Is (no (bR (y*v)))))):=by
 refine Calls.mono (R:=Gv w (T2 (FR w.heap.size (bW (x*v+ -u*y) (y*v)) (cD (x*v+ -u*y) (y*v))) (Is (no (bR (y*v)))))) ?_ (Gv.imp (T2.imp (FR.imp hb) Is.imp));have Lx:=bP hx la;have Ly:=bP hy lb;have Lu:=bP hu ld;have Lv:=bP hv le;refine bU Tryz.func20 16 J (sr (bx [.bool sa,up Aa na ca,.bool sb,up Ab nb cb] bN J J J fun _ _ bw _ _ df=>(fY [.bool sd,up Ad nd cd,.bool se,up Ae ne ce] df bw.lt J J J fun g6 _ au _ _ e8 de=>(bV [F0,S0,F0,S0] de au.lt J fun _ _ bp bo _ aq ar=>(aE 1 J (aD ?_))))));have ba:ln (-u)≤268435456:=by rw [gQ];exact Lu
 have eh:ln (bW (x*v+(-u)*y) (y*v))≤536870913:=gY (a8 (eK (dI Lx Lv) (dI ba Ly)) yd);have eg:ln (cD (x*v+(-u)*y) (y*v))≤536870912:=i6 (dI Ly Lv);refine dW cM 10 [8,9] [Is (a9 sa Aa na ca sb Ab nb cb),Is (i5 g6 0),Is (O sd Ad nd cd),ZR w.heap.size (-u),Is (i5 g6 2),Is (O se Ae ne ce),fun v' w'=>∃s0 A0 n0 c0,v'= a9 s0 A0 n0 c0 se Ae ne ce∧Zr w' w.heap.size s0 A0 n0 c0 (-u),T2 (FR w.heap.size (bW (x*v+(-u)*y) (y*v)) (cD (x*v+(-u)*y) (y*v))) (Is (no (bR (y*v)))),fun v' w'=>∃s0 A0 n0 c0 s1 A1 n1 c1,v'= a9 s0 A0 n0 c0 s1 A1 n1 c1∧Zr w' w.heap.size s0 A0 n0 c0 (bW (x*v+(-u)*y) (y*v))∧Zr w' w.heap.size s1 A1 n1 c1 (cD (x*v+(-u)*y) (y*v)),Is (no (bR (y*v)))] [[],[],[1],[2],[],[4],[3,5],[0,6],[7],[7]] rfl (bY J ?_ ?_ ?_ ?_ (bY J ?_ ?_ ?_ ?_ (gL J J (gM J ?_) (gL J J (gM J ?_) dN)))) ?_
 ·exact fun _ cp=>aC (lo bJ (bw.ext (e8.t (aq.t cp))) [.bool sa,up Aa na ca,.bool sb,up Ab nb cb] J J J (aI J))
 ·exact fun _ _=>aC (pf g6 0 J (aI J))
 ·exact fun _ ct=>aO J (aC (lo aB (au.ext (aq.t ct)) (a5 sd Ad nd cd) J J J (aI J)))
 ·intro _ dh;have f:=ar.trans dh;refine aO J (aC ?_);have ei:ln (-u)≤268435456:=by rw [gQ];exact Lu
  refine aX f (NK f.size (hu.ext f) (aJ ld J)) J ?_;rintro _ _ ⟨_,_,_,_,rfl,cz⟩ dy aw;exact bQ J dy ⟨_,_,_,_,rfl,cz⟩
 ·exact fun _ _=>aC (pf g6 2 J (aI J))
 ·exact fun _ cv=>aO J (aC (lo aB (au.ext (aq.t cv)) (a5 se Ae ne ce) J J J (aI J)))
 ·intro _ _;refine aW J ?_;rintro _ _ ⟨da,du,cm,dr,rfl,av⟩ _ dl;have av:=av.ext dl;exact aO J (aC (aA (a9 da du cm dr se Ae ne ce) J (bQ J bN ⟨_,_,_,_,rfl,av⟩)))
 ·intro _ dg;have f:=ar.trans dg;refine aO J (aW J ?_);rintro _ _ ⟨_,_,_,_,rfl,Y⟩ _ dm;have Y:=Y.ext dm;refine aC ?_;have ef:ln (bW (x*v+(-u)*y) (y*v))≤536870913:=gY (a8 (eK (dI Lx Lv) (dI ba Ly)) yd);have ee:ln (cD (x*v+(-u)*y) (y*v))≤536870912:=i6 (dI Ly Lv);refine aX f (L9 f.size (hx.ext f) (aJ la J) (hy.ext f) (aJ lb J) Y.zi (Y.le (aJ ba J)) (hv.ext f) (aJ le J)) J ?_;rintro _ _ ⟨_,_,rfl,⟨_,_,_,_,_,_,_,_,rfl,dt,dx⟩,rfl⟩ dw aw;exact bQ J dw ⟨_,_,rfl,⟨_,_,_,_,_,_,_,_,rfl,dt,dx⟩,rfl⟩
 ·intro _ _;refine aW J ?_;rintro _ _ ⟨_,_,rfl,⟨br,bi,ci,bu,bg,bf,bd,bm,rfl,U,M⟩,rfl⟩ _ ch;have U:=U.ext ch;have M:=M.ext ch;refine aC ?_;exact⟨a9 br bi ci bu bg bf bd bm,rfl,rfl,fun _=>by kernel_rfl,⟨_,_,_,_,_,_,_,_,rfl,U,M⟩⟩
 ·intro _ _;refine aW J ?_;rintro _ _ ⟨_,_,rfl,⟨_,_,_,_,_,_,_,_,rfl,ag,ae⟩,rfl⟩ _ aa;have ag:=ag.ext aa;have ae:=ae.ext aa;refine aC ?_;exact⟨no (bR (y*v)),rfl,rfl,fun _=>by kernel_rfl,rfl⟩
 intro _ ab;have f:=ar.trans ab;refine aY J (aO J (aW J ?_));rintro _ _ ⟨_,_,_,_,rfl,am⟩ _ bh;have am:=am.ext bh;refine aY J (aW J ?_);rintro _ _ ⟨_,_,_,_,rfl,Z⟩ _ bj;have Z:=Z.ext bj;refine aW J ?_;rintro _ _ ⟨_,_,rfl,⟨_,_,_,_,_,_,_,_,rfl,ai,ah⟩,rfl⟩ _ ao;have ai:=ai.ext ao;have ah:=ah.ext ao;refine aW J ?_;rintro _ _ ⟨F,L,G,H,o,X,E,I,rfl,W,V⟩ _ aj;have W:=W.ext aj;have V:=V.ext aj;refine aO J (aC ?_);have h:=(bp.ext ab);refine so bJ h [.bool F,up L G H,.bool o,up X E I] f bo J J J J fun _ az ak aw=>(bS 1 J (dM (aL (bA (aZ [a9 F L G H o X E I,no (bR (y*v))] J ⟨⟨_,rfl,bK bJ az [.bool F,up L G H,.bool o,up X E I] J (bq J) rfl⟩,rfl,xl⟩ ?_)))));exact⟨_,rfl,⟨_,_,rfl,⟨_,_,_,_,_,_,_,_,rfl,((W.updT h ak)).cast (J),((V.updT h ak)).cast (J)⟩,rfl⟩,aw⟩
theorem XQ {nb:Nat}{nd:Nat}(hx:Zi w sa Aa na ca x)(la:na≤268435456)(hy:Zi w sb Ab nb cb y)(lb:nb≤268435456)(hu:Zi w sd Ad nd cd u)(ld:nd≤268435456)(hv:Zi w se Ae ne ce v)(le:ne≤268435456):aQ aM 23 #[a9 sa Aa na ca sb Ab nb cb,a9 sd Ad nd cd se Ae ne ce] w (Gv w (T2 (Is (no (bM (bW (x*v+ -u*y) (y*v)) 0))) (Is (no (bR (y*v)))))):=by
 have Lx:=bP hx la;have Ly:=bP hy lb;have Lu:=bP hu ld;have Lv:=bP hv le;refine bU Tryz.func23 20 J (sr (bx [.bool sa,up Aa na ca,.bool sb,up Ab nb cb] bN J J J fun _ _ V _ _ ao=>(fY [.bool sd,up Ad nd cd,.bool se,up Ae ne ce] ao V.lt J J J fun _ _ L _ _ e8 f=>(aE 2 J (sr (lo bJ (V.ext e8) [.bool sa,up Aa na ca,.bool sb,up Ab nb cb] J J J (lo bJ L [.bool sd,up Ad nd cd,.bool se,up Ae ne ce] J J J ?_)))))));have ab:ln (bW (x*v+ -u*y) (y*v))≤536870913:=gY (a8 (eK (dI Lx Lv) (dI (by rw [gQ];exact Lu) Ly)) yd);have ar:ln (cD (x*v+ -u*y) (y*v))≤536870912:=i6 (dI Ly Lv);refine aX f (L6 f.size (hx.ext f) (aJ la J) (hy.ext f) (aJ lb J) (hu.ext f) (aJ ld J) (hv.ext f) (aJ le J)) J ?_;rintro _ _ ⟨_,_,rfl,⟨o,G,F,E,H,Y,X,I,rfl,W,_⟩,rfl⟩ aj ai;refine mv 1 J (aA (a9 o G F E H Y X I) J (aA (no (bR (y*v))) J (bV [F0,S0,F0,S0] ai (L.ext aj).lt J fun ag _ h M _ ah am=>(so bJ h [.bool o,up G F E,.bool H,up Y X I] am M J J J J fun _ Z ak U=>(aE 1 J (aD (aD ?_)))))));by_cases hz:y*v=0
 ·refine aK 1 J (aH J (pO (by rw [qK hz];decide)) (aG (bC J (sr (aE 3 J (bA (cI (aZ [I0,no (bR (y*v))] J ⟨rfl,rfl,xl⟩ ?_))))))));exact⟨_,rfl,⟨_,_,rfl,(show (no 0:aF)=_ by rw [VB hz]),rfl⟩,U⟩
 refine aK 1 J (aH J (pP (oT hz)) (aG (aT J (bB (aL (sr (pf ag 0 J (lo aB Z (a5 o G F E) J J J (aX U (gR ((W.ext ah).updT h ak).zi (W.le (aJ ab J))) J ?_)))))))));rintro _ _ rfl _ ae;refine aE 2 J (bA (aZ [no (bM (bW (x*v+ -u*y) (y*v)) 0),I0] J ⟨rfl,rfl,xl⟩ ?_));exact⟨_,rfl,⟨_,_,rfl,rfl,(show (no 0:aF)=_ by rw [oT hz])⟩,ae⟩
theorem XP {nb:Nat}{nd:Nat}(hb:b≤w.heap.size)(hx:Zi w sa Aa na ca x)(la:na≤268435456)(hy:Zi w sb Ab nb cb y)(lb:nb≤268435456)(hu:Zi w sd Ad nd cd u)(ld:nd≤268435456)(hv:Zi w se Ae ne ce v)(le:ne≤268435456):aQ aM 22 #[a9 sa Aa na ca sb Ab nb cb,a9 sd Ad nd cd se Ae ne ce] w (Gv w (T2 (FR b (l9 x y u v) (lB x y u v)) (Is (no (lA y u v))))):=by
 refine Calls.mono (R:=Gv w (T2 (FR w.heap.size (l9 x y u v) (lB x y u v)) (Is (no (lA y u v))))) ?_ (Gv.imp (T2.imp (FR.imp hb) Is.imp));have Lx:=bP hx la;have Ly:=bP hy lb;have Lu:=bP hu ld;have Lv:=bP hv le;refine bU Tryz.func22 24 J (sr (bx [.bool sa,up Aa na ca,.bool sb,up Ab nb cb] bN J J J fun g1 _ M _ _ en=>(fY [.bool sd,up Ad nd cd,.bool se,up Ae ne ce] en M.lt J J J fun g6 _ L _ _ e8 ej=>(bV [F0,S0,F0,S0] ej L.lt J fun _ _ ai ah _ E h=>(aE 1 J (aD (aD ?_)))))));by_cases o:v=0
 ·have h0:y=0∨v=0:=cN o;refine bH (lo bJ (M.ext (e8.t E)) [.bool sa,up Aa na ca,.bool sb,up Ab nb cb] J J J (lo bJ (L.ext E) [.bool sd,up Ad nd cd,.bool se,up Ae ne ce] J J J (aX h (AO (hx.ext h) (aJ la J) (hy.ext h) (aJ lb J) (hu.ext h) (aJ ld J) (hv.ext h) (aJ le J) h0) J ?_)));rintro _ _ rfl fa F;refine aA (we) J (aG (bC J (sr (aA (.agg #[F0,S0,F0,S0]) J ?_))));refine so bJ (ai.ext fa) [F0,S0,F0,S0] F ah J J J J fun ch dt _ f=>(aE 1 J (bA (cI (aZ [.agg #[F0,S0,F0,S0],no 4] J ⟨⟨_,rfl,bK bJ dt [F0,S0,F0,S0] J (bq J) rfl⟩,rfl,xl⟩ ?_))));exact⟨_,rfl,⟨_,_,rfl,⟨_,_,_,_,_,_,_,_,rfl,((Zr.zero (w:=ch) (base:=w.heap.size))).cast (by simp only [l9,if_pos o]),((Zr.zero (w:=ch) (base:=w.heap.size))).cast (by simp only [lB,if_pos o])⟩,(show (no 4:aF)=_ by simp only [lA,if_pos o])⟩,f⟩
 by_cases bm:y=0
 ·have h0:y=0∨v=0:=cJ bm;have hz:y*u=0:=by rw [bm,Int.zero_mul]
  refine bH (lo bJ (M.ext (e8.t E)) [.bool sa,up Aa na ca,.bool sb,up Ab nb cb] J J J (lo bJ (L.ext E) [.bool sd,up Ad nd cd,.bool se,up Ae ne ce] J J J (aX h (AO (hx.ext h) (aJ la J) (hy.ext h) (aJ lb J) (hu.ext h) (aJ ld J) (hv.ext h) (aJ le J) h0) J ?_)));rintro _ _ rfl ei F;refine aA (we) J (aG (bC J (sr (aA (.agg #[F0,S0,F0,S0]) J ?_))));refine so bJ (ai.ext ei) [F0,S0,F0,S0] F ah J J J J fun cp cv _ f=>(aE 1 J (bA (cI (aZ [.agg #[F0,S0,F0,S0],no 4] J ⟨⟨_,rfl,bK bJ cv [F0,S0,F0,S0] J (bq J) rfl⟩,rfl,xl⟩ ?_))));exact⟨_,rfl,⟨_,_,rfl,⟨_,_,_,_,_,_,_,_,rfl,((Zr.zero (w:=cp) (base:=w.heap.size))).cast (by simp only [l9,bW,if_neg o,if_pos hz]),((Zr.zero (w:=cp) (base:=w.heap.size))).cast (by simp only [lB,cD,if_neg o,if_pos hz])⟩,(show (no 4:aF)=_ by simp only [lA,bR,if_neg o,if_pos hz])⟩,f⟩
 have em:y≠0:=bm;have eg:v≠0:=o;refine bH (lo bJ (M.ext (e8.t E)) [.bool sa,up Aa na ca,.bool sb,up Ab nb cb] J J J (lo bJ (L.ext E) [.bool sd,up Ad nd cd,.bool se,up Ae ne ce] J J J (aX h (EB (hx.ext h) (aJ la J) (hy.ext h) (aJ lb J) (hu.ext h) (aJ ld J) (hv.ext h) (aJ le J) em eg) J ?_)));rintro _ _ rfl ak F;refine aA (wk) J (aG (aT J (bB (aL (aD ?_)))));have bj:ln (x*v)≤536870912:=a8 (dI Lx Lv) yd;have bp:ln (y*u)≤536870912:=a8 (dI Ly Lu) yd;have fi:ln (bW (x*v) (y*u))≤536870912:=gY bj;have fj:ln (cD (x*v) (y*u))≤536870912:=i6 bp;refine dW cM 13 [11,12] [Is (i5 g1 0),Is (O sa Aa na ca),Is (i5 g6 2),Is (O se Ae ne ce),ZR w.heap.size (x*v),Is (i5 g1 2),Is (O sb Ab nb cb),Is (i5 g6 0),Is (O sd Ad nd cd),ZR w.heap.size (y*u),T2 (FR w.heap.size (bW (x*v) (y*u)) (cD (x*v) (y*u))) (Is (no (bR (y*u)))),fun v' w'=>∃s0 A0 n0 c0 s1 A1 n1 c1,v'= a9 s0 A0 n0 c0 s1 A1 n1 c1∧Zr w' w.heap.size s0 A0 n0 c0 (bW (x*v) (y*u))∧Zr w' w.heap.size s1 A1 n1 c1 (cD (x*v) (y*u)),Is (no (bR (y*u)))] [[],[0],[],[2],[1,3],[],[5],[],[7],[6,8],[4,9],[10],[10]] rfl (bY J ?_ ?_ ?_ ?_ (bY J ?_ ?_ ?_ ?_ (cG J ?_ (cG J ?_ (cG J ?_ (gL J J (gM J ?_) (gL J J (gM J ?_) dN))))))) ?_
 ·exact fun _ _=>aC (pf g1 0 J (aI J))
 ·exact fun _ fb=>aO J (aC (lo aB (M.ext (e8.t (E.t (ak.t fb)))) (a5 sa Aa na ca) J J J (aI J)))
 ·exact fun _ _=>aC (pf g6 2 J (aI J))
 ·exact fun _ fc=>aO J (aC (lo aB (L.ext (E.t (ak.t fc))) (a5 se Ae ne ce) J J J (aI J)))
 ·intro _ eh;have f:=F.trans eh;refine aY J (aC ?_);have fh:ln (x*v)≤536870912:=a8 (dI Lx Lv) yd;refine aX f (rZ f.size (hx.ext f) (aJ la J) (hv.ext f) (aJ le J)) J ?_;rintro _ _ ⟨_,_,_,_,rfl,ey⟩ ef ao;exact bQ J ef ⟨_,_,_,_,rfl,ey⟩
 ·exact fun _ _=>aC (pf g1 2 J (aI J))
 ·exact fun _ ew=>aO J (aC (lo aB (M.ext (e8.t (E.t (ak.t ew)))) (a5 sb Ab nb cb) J J J (aI J)))
 ·exact fun _ _=>aC (pf g6 0 J (aI J))
 ·exact fun _ ez=>aO J (aC (lo aB (L.ext (E.t (ak.t ez))) (a5 sd Ad nd cd) J J J (aI J)))
 ·intro _ dm;have f:=F.trans dm;refine aY J (aC ?_);have fd:ln (y*u)≤536870912:=a8 (dI Ly Lu) yd;refine aX f (rZ f.size (hy.ext f) (aJ lb J) (hu.ext f) (aJ ld J)) J ?_;rintro _ _ ⟨_,_,_,_,rfl,dl⟩ cj ao;exact bQ J cj ⟨_,_,_,_,rfl,dl⟩
 ·intro _ df;have f:=F.trans df;refine aW J ?_;rintro _ _ ⟨_,_,_,_,rfl,I⟩ _ du;have I:=I.ext du;refine aW J ?_;rintro _ _ ⟨_,_,_,_,rfl,H⟩ _ ci;have H:=H.ext ci;refine aC ?_;have fe:ln (bW (x*v) (y*u))≤536870912:=gY bj;have fg:ln (cD (x*v) (y*u))≤536870912:=i6 bp;refine aX f (rL f.size I.zi (I.le (aJ bj J)) H.zi (H.le (aJ bp J))) J ?_;rintro _ _ ⟨_,_,rfl,⟨_,_,_,_,_,_,_,_,rfl,da,bu⟩,rfl⟩ cz ao;exact bQ J cz ⟨_,_,rfl,⟨_,_,_,_,_,_,_,_,rfl,da,bu⟩,rfl⟩
 ·intro _ _;refine aW J ?_;rintro _ _ ⟨_,_,rfl,⟨dx,br,dr,dg,ct,dw,bw,dy,rfl,aj,V⟩,rfl⟩ _ bg;have aj:=aj.ext bg;have V:=V.ext bg;refine aC ?_;exact⟨a9 dx br dr dg ct dw bw dy,rfl,rfl,fun _=>by kernel_rfl,⟨_,_,_,_,_,_,_,_,rfl,aj,V⟩⟩
 ·intro _ _;refine aW J ?_;rintro _ _ ⟨_,_,rfl,⟨_,_,_,_,_,_,_,_,rfl,bd,au⟩,rfl⟩ _ bh;have bd:=bd.ext bh;have au:=au.ext bh;refine aC ?_;exact⟨no (bR (y*u)),rfl,rfl,fun _=>by kernel_rfl,rfl⟩
 intro _ aq;have f:=F.trans aq;refine d6 J (aW J ?_);rintro _ _ ⟨_,_,_,_,rfl,av⟩ _ dh;have av:=av.ext dh;refine d6 J (aW J ?_);rintro _ _ ⟨_,_,_,_,rfl,az⟩ _ de;have az:=az.ext de;refine aW J ?_;rintro _ _ ⟨_,_,rfl,⟨_,_,_,_,_,_,_,_,rfl,bi,ba⟩,rfl⟩ _ bf;have bi:=bi.ext bf;have ba:=ba.ext bf;refine aW J ?_;rintro _ _ ⟨Z,aa,X,ae,Y,U,ag,am,rfl,W,ab⟩ _ ar;have W:=W.ext ar;have ab:=ab.ext ar;refine aO J (aC ?_);have G:=(ai.ext (ak.t aq));refine so bJ G [.bool Z,up aa X ae,.bool Y,up U ag am] f ah J J J J fun _ bo aw ao=>(bS 1 J (dM (aL (bA (aZ [a9 Z aa X ae Y U ag am,no (bR (y*u))] J ⟨⟨_,rfl,bK bJ bo [.bool Z,up aa X ae,.bool Y,up U ag am] J (bq J) rfl⟩,rfl,xl⟩ ?_)))));exact⟨_,rfl,⟨_,_,rfl,⟨_,_,_,_,_,_,_,_,rfl,((W.updT G aw)).cast (by simp only [l9,if_neg o]),((ab.updT G aw)).cast (by simp only [lB,if_neg o])⟩,(show (no (bR (y*u)):aF)=_ by simp only [lA,if_neg o])⟩,ao⟩
theorem a0B {x:Nat}(hs:s≤64)(hx:x*2^s≤9223372036854775807)(P:cO)(t:aS)(w:a6):(binOp .shl t (no (x:Int)) (t9 (s:Int))).run P w= .ok (no (x*2^s:Nat)) w:=by
 have e:((x:Int)*2^min (s:Int).toNat IntKind.i64.bits)=((x*2^s:Nat):Int):=by
  rw [jB,show min s IntKind.i64.bits=s from iJ hs];simp
 simp only [binOp];rw [shift_shl_any _ _ _ _ i9,e,IntWalk.i64_in _ ⟨by omega,by omega⟩];rfl
def EE (e:ZC):aF:= up e.A e.n e.c
def Pw (w:a6)(pb:Nat)(PA:Option a7)(pn pc unit:Nat):Prop:=∃es:List ZC,Own w pb 22 1 PA pn pc (es.map EE)∧es.length=pn∧
 ∀i,i<pn→(es.getD i ZC.zero).n=(wd (unit^2^i)).length∧(es.getD i ZC.zero).n≤8388608∧Own w 0 43 1 (es.getD i ZC.zero).A (es.getD i ZC.zero).n (es.getD i ZC.zero).c ((wd (unit^2^i)).map bF)
theorem Pw.nil (w:a6)(pb unit:Nat):Pw w pb none 0 0 unit:=⟨[],Own.nil _ _ _ _,rfl,fun i hi=>by omega⟩
theorem Pw.ext {pc:Nat}(h:Pw w pb PA pn pc unit)(e:Ext w w'):Pw w' pb PA pn pc unit:=by
 obtain⟨es,h1,h2,f⟩:=h;exact⟨es,h1.ext e,h2,fun i hi=>⟨(f i hi).1,(f i hi).2.1,(f i hi).2.2.ext e⟩⟩
theorem Pw.updW {pc:Nat}(h:Pw w pb PA pn pc unit)(u:UpdW lb w w'):Pw w' pb PA pn pc unit:=by
 obtain⟨es,h1,h2,f⟩:=h;exact⟨es,u.own h1 yd yd,h2,fun i hi=>⟨(f i hi).1,(f i hi).2.1,u.own (f i hi).2.2 yd yd⟩⟩
theorem Pw.updT {pc:Nat}(h:Pw w pb PA pn pc unit)(hb:Bk w g T us)(u:Upd g w w')(h1:22≠T)(h2:43≠T):Pw w' pb PA pn pc unit:=by
 obtain⟨es,o,E,f⟩:=h;exact⟨es,o.updT hb h1 u,E,fun i hi=>⟨(f i hi).1,(f i hi).2.1,(f i hi).2.2.updT hb h2 u⟩⟩
theorem Pw.at {pc:Nat}(h:Pw w pb PA pn pc unit)(hi:i<pn):∃p A n c,PA.map (·.add (i*1))=some p∧w.cell? p=some (up A n c)∧n=(wd (unit^2^i)).length∧n≤8388608∧Own w 0 43 1 A n c ((wd (unit^2^i)).map bF):=by
 obtain⟨es,h1,h2,E⟩:=h;obtain⟨a,G,hc⟩:=h1.rv.get i i9
 have e:(es.map EE).getD i undef=EE (es.getD i ZC.zero):=by
  simp [bL,jM,cT (show i<es.length by omega)]
 rw [e] at hc;obtain⟨f,o,F⟩:=E i hi;exact⟨a.add i,_,_,_,by rw [G,eH];rfl,hc,f,o,F⟩
theorem Pw.mono {pb':Nat}{pc:Nat}(h:Pw w pb PA pn pc unit)(hb:pb'≤pb):Pw w pb' PA pn pc unit:=by
 obtain⟨es,h1,h2,f⟩:=h;exact⟨es,h1.mono hb,h2,f⟩
theorem SI {Q:Exit→Act→a6→Prop}{l:Fr}{pos:String}{x y:cR}{pc qc:Nat}(hw:dD ops l gd=some true)(hx:cB l x=some (up PA pn pc))(hy:cB l y=some (up (some ⟨g,0,none⟩) 1 c))(h:Pw w pb PA pn pc unit)(hpb:pb≤w.heap.size)(hb:Bk w g 22 [up A n qc])(hn:n=(wd (unit^2^pn)).length)(hn8:n≤8388608)(ho:Own w b 43 1 A n qc ((wd (unit^2^pn)).map bF))(hm:pn≤64)(hd:d<N)(k:∀A' c' w',Pw w' pb A' (pn+1) c' unit→UpdO PA w w'→(∃us,Own w pb 22 1 PA pn pc us)→wl aM ops Q N rest ((d,up A' (pn+1) c')::l) w'):wl aM ops Q N (⟨some d,.call {callee:= .builtin .append,args:= #[x,y],argTypes:= #[36,36]},ty,pos,af,gd⟩::rest) l w:=by
 obtain⟨es,h1,h2,E⟩:=h;refine nR hw hx hy mU xZ J h1 hpb [up A n qc] J (vC _ hb) J (hn:=hd) fun A' c' w' ho' o _=>k A' c' w' ?_ o ⟨_,h1⟩;refine⟨es++ [⟨false,A,n,qc⟩],by rw [List.map_append];exact ho',by simp [h2],fun i hi=>?_⟩;by_cases f:i<pn
 ·rw [y8];exact⟨(E i f).1,(E i f).2.1,(E i f).2.2.updOT h1 yd o⟩
 have F:i=pn:=by omega
 subst F;have G:(es++ [(⟨false,A,n,qc⟩:ZC)]).getD i ZC.zero=⟨false,A,n,qc⟩:=by rw [←h2];exact y7
 rw [G];exact⟨hn,hn8,(ho.mono (bX b)).updOT h1 yd o⟩
theorem a3l {x:Nat}(h:Bk w g 43 [t9 x])(hx:x≤18446744073709551615)(h0:x≠0):Own w 0 43 1 (some ⟨g,0,none⟩) 1 1 ((wd x).map bF):=
 vB (Own.mk_ (bX _) h (aU _) (by rw [eV];omega) J J) hx h0
theorem LF {u:Nat}:u^2^j*u^2^j=u^2^(j+1):=by rw [←eS,dS];congr 1;omega
theorem a0c (h:(wd p).length≤n):(wd (p*p)).length≤2*n:=by
 refine kK ?_;have h1:=nZ p;have h2:p<WB^n:=dA h1 (fZ (by rw [dJ];decide) h);rw [Nat.two_mul,eS];exact Nat.mul_lt_mul'' h2 h2
theorem AE (hx:Wi w A n c m)(hy:Wi w B n' c' m')(hl:n≤1099511627776:=by omega)(hl':n'≤1099511627776:=by omega):aQ aM 108 #[up A n c,up B n' c'] w (Gv w (Is (no (fA m m')))):=by
 obtain⟨xs,h1,rfl⟩:=hx;obtain⟨ys,h2,rfl⟩:=hy;refine (vF h1 h2 (hl:=hl) (hl':=hl')).mono fun e w' h=>?_;obtain⟨d,o,_,_,rfl,f⟩:=h;exact⟨_,rfl,(show eL .i64 d=_ by rw [o.out]),f⟩
theorem VS (hb:b≤w.heap.size)(hx:Wi w A n c m)(hl:n≤274877906944)(hy:Wi w B n' c' m')(hl':n'≤274877906944)(h0:m'≠0):aQ aM 115 #[up A n c,up B n' c'] w (Gv w (T3 (WR b (m/m')) (WR b (m%m')) (Is (no 0)))):=by
 obtain⟨xs,h1,rfl⟩:=hx;obtain⟨ys,h2,rfl⟩:=hy;refine (yD h1 hl h2 hl' h0).mono fun e w' h=>?_;obtain⟨A,n,cap,B,m,cap',rfl,E,_,f,o,_,F,G⟩:=h;exact⟨_,rfl,⟨_,_,_,rfl,⟨A,n,cap,rfl,E.out,f.mono hb⟩,⟨B,m,cap',rfl,o.out,F.mono hb⟩,rfl⟩,G⟩
theorem DW (hb:b≤w.heap.size)(hx:Wi w A n c m)(hl:n≤137438953472:=by omega):aQ aM 117 #[up A n c] w (Gv w (WR b (m*m))):=by
 obtain⟨xs,h1,rfl⟩:=hx;exact (ET h1 hl).mono (gw hb)
theorem a2S {x y:Nat}(h:x<y):cQ .lss (fA x y) 0=some true:=xU (nH.2 h)
theorem a2T {x y:Nat}(h:y≤x):cQ .lss (fA x y) 0=some false:=tI (h:=(by have:=nH (a:=x) (b:=y);omega))
theorem a2U {x y:Nat}(h:x≤y):cQ .leq (fA x y) 0=some true:=NH (by have:=G3 (a:=x) (b:=y);omega)
theorem a2V {x y:Nat}(h:y<x):cQ .leq (fA x y) 0=some false:=NI (G3.2 h)
theorem LI {u:Nat}(hu:2≤u)(h:u^2^ip≤m)(hl:(wd m).length≤an):2^ip≤64*an:=by
 have h1:=nZ m;rw [nJ,←Nat.pow_mul] at h1;have h2:2^2^ip≤u^2^ip:=Nat.pow_le_pow_left hu _;have f:2^(64*(wd m).length)≤2^(64*an):=fZ yd (gT _ hl);exact Nat.le_of_lt ((Nat.pow_lt_pow_iff_right yd).1 (lS h2 (lS h (dA h1 f))))
theorem NU (h:2^ip≤n)(hn:n≤268435456):ip≤28:=by
 refine Nat.le_of_not_lt fun h2=>?_;have f:2^29≤2^ip:=fZ yd h2;omega
theorem T1 (hb:2≤b)(h:(b^k)^2^ip≤m)(h0:0<(b^k)^2^ip):eT (fG (db b (m/(b^k)^2^ip)) (width-k*2^ip))++eT (fG (db b (m%(b^k)^2^ip)) (k*2^ip))=eT (fG (db b m) width):=by
 have e:(b^k)^2^ip=b^(k*2^ip):=by rw [←Nat.pow_mul]
 rw [e] at h h0⊢;have f:m/b^(k*2^ip)≠0:=by have:=Nat.div_pos h h0;omega
 have hr:(db b (m%b^(k*2^ip))).length≤k*2^ip:=lY hb (g7 _ h0);have hl:(fG (db b (m%b^(k*2^ip))) (k*2^ip)).length=k*2^ip:=by rw [tM];omega
 rw [←zN,LJ,←C0 hb f,hl];by_cases o:k*2^ip≤width
 ·rw [show k*2^ip+(width-k*2^ip)=width by omega]
 have h2:k*2^ip≤(db b m).length:=by rw [C0 hb f,f8,hl];omega
 rw [xI i9,xI i9]
theorem T7 (hb:2≤b)(h:(b^k)^2^ip≤m)(h0:0<(b^k)^2^ip):max (width-k*2^ip) (db b (m/(b^k)^2^ip)).length+k*2^ip=max width (db b m).length∨(width<k*2^ip∧(db b (m/(b^k)^2^ip)).length+k*2^ip=(db b m).length):=by
 have e:(b^k)^2^ip=b^(k*2^ip):=by rw [←Nat.pow_mul]
 rw [e] at h h0⊢;have f:m/b^(k*2^ip)≠0:=by have:=Nat.div_pos h h0;omega
 have hr:(db b (m%b^(k*2^ip))).length≤k*2^ip:=lY hb (g7 _ h0);have hl:(fG (db b (m%b^(k*2^ip))) (k*2^ip)).length=k*2^ip:=by rw [tM];omega
 have h2:(db b m).length=k*2^ip+(db b (m/b^(k*2^ip))).length:=by rw [C0 hb f,f8,hl]
 omega
def CG (ip:Nat):Prop:=∀{w:a6}{g base k unit:Nat}{PA:Option a7}{pn pc:Nat}{OA:Option a7}{on oc lb:Nat}{bs:List Nat}{A:Option a7}{an ac m width:Nat}{ii:Int}(_:ii=(ip:Int)-1) (_:Signs w) (_:3<lb) (_:2≤base) (_:base≤36) (_:Wr w g base k unit PA pn pc OA on oc)
 (_:Own w lb 5 1 OA on oc (bs.map B8)) (_:lb≤g) (_:lb≤w.heap.size) (_:Wi w A an ac m) (_:an≤4194304) (_:unit=base^k) (_:PieceK base k) (_:width≤137438953472) (_:on+max width (db base m).length≤137438953472) (_:Pw w 0 PA pn pc unit) (_:ip≤pn) (_:pn≤64),
 aQ aM 163 #[i5 g 0,up A an ac,no ii,no width] w (CB w lb g base k unit PA pn pc OA (bs++eT (fG (db base m) width)))
theorem a0F:CG 0:=by
 intro w g base k unit PA pn pc OA on oc lb bs A an ac m width ii _ U o G f W M h L V H E F I _ _ _ _;obtain rfl:ii= -1:=by omega
 exact VJ U o G f W M h L V H E F I i9
theorem a0H (ih:CG ip):CG (ip+1):=by
 intro w g base k unit PA pn pc OA on oc lb bs A an ac m width ii _ hS M E X hW hO Z Y ha aq f I eg _ hP _ ao;obtain rfl:ii=(ip:Int):=by omega
 have aj:(wd m).length≤4194304:=a8 ha.len aq;have ew:1≤k:=by refine Nat.pos_of_ne_zero (fun e=>?_);have:=I.gt;rw [e,eR,Nat.pow_one] at this;omega
 have ej:2≤unit:=by rw [f];exact a8 E (a8 (Nat.le_of_eq (Nat.pow_one base).symm) (fZ i9 ew))
 refine bU Tryz.func163 74 J (aD (aD ?_));by_cases fj:an≤12
 ·refine aK 1 J (aH J (tI) (mv 2 J (aA (no an) J (aH J (pS an 12 J) (aA (we) J (aG (bC J (aV 3 J (dP [i5 g 0,up A an ac,no width] (JT hS M E X hW hO Z (a8 Y (UpdW.refl lb w).size) ha aq f I eg i9) J ?_)))))))));rintro _ v1 ⟨rfl,A2,_,_,dh,ef,el,fa⟩;refine dO ?_;have G:UpdW lb w v1:=(UpdW.refl lb w).then el;have ee:=(Kept.refl w OA).next fa (UpdW.refl lb w).size;refine aG (bA (cI (aZ [] J xl ?_)));exact⟨rfl,A2,_,_,dh,ef,G,ee⟩
 refine aK 1 J (aH J (tI) (mv 2 J (aA (no an) J (aH J (pT an 12 J) (aA (wk) J (aG (aT J (bB (aL (aD (aD ?_)))))))))));by_cases dw:m<unit^2^ip
 ·refine aK 2 J (pf g 0 J (pf g 3 J (dG hW J (mv 1 J ?_))));obtain⟨pp,BA,bn,bc,U,L,aw,ab,V⟩:=hP.at (i:=ip) i9;have ag:0<unit^2^ip:=iI (by rw [f];exact iI i9);refine cA mU oN ip pp U J (bG (d5 sH L) J (dP [up A an ac,up BA bn bc] (AE ha V.wi) J ?_));rintro _ cm ⟨_,rfl,dm,F⟩;refine dO ?_;have G:UpdW lb w cm:=(UpdW.refl lb w).trans F;have bh:Ext w cm:=(Ext.refl w).trans F;obtain rfl:=dm;refine aH J (a2S dw) (aG (bC J (aV 3 J (eC J J J ((ip:Int)-1) (fS J) (mv 1 J (dP [i5 g 0,up A an ac,no ((ip:Int)-1),no width] (ih J (hS.ext F) M E X (hW.ext F) (hO.ext F) Z (a8 Y G.size) (ha.ext F) aq f I i9 i9 (hP.ext F) i9 ao) J ?_))))));rintro _ eh ⟨rfl,fb,_,_,bj,ch,ct,bi⟩;refine dO ?_;have W:UpdW lb w eh:=G.then ct;have cz:=(Kept.refl w OA).next bi G.size;refine aG (bA (cI (aZ [] J xl ?_)));exact⟨rfl,fb,_,_,bj,ch,W,cz⟩
 have ci:unit^2^ip≤m:=by omega
 have ai:=LI ej ci aj;have dl:=NU ai i9;have fd:k*2^ip≤64*268435456:=kP I.le64 i9;have ae:(base^k)^2^ip≤m:=f▸ci;have ah:0<(base^k)^2^ip:=iI (iI i9);have em:(wd (m/unit^2^ip)).length≤4194304:=a8 (iP (gN _ _)) aj;have du:(wd (m%unit^2^ip)).length≤4194304:=a8 (iP (Nat.mod_le _ _)) aj;have fi:(db base (m%unit^2^ip)).length≤k*2^ip:=lY E (by rw [Nat.pow_mul,←f];exact g7 _ (f▸ah));have ey:=T7 (width:=width) E ae ah;rw [←f] at ey;refine aK 2 J (pf g 0 J (pf g 3 J (dG hW J (mv 1 J ?_))));obtain⟨pp,BA,bn,bc,U,L,aw,ab,V⟩:=hP.at (i:=ip) i9;have ag:0<unit^2^ip:=iI (by rw [f];exact iI i9);refine cA mU oN ip pp U J (bG (d5 sH L) J (dP [up A an ac,up BA bn bc] (AE ha V.wi) J ?_));rintro _ bu ⟨_,rfl,en,h⟩;refine dO ?_;have G:UpdW lb w bu:=(UpdW.refl lb w).trans h;have bh:Ext w bu:=(Ext.refl w).trans h;obtain rfl:=en;refine aH J (a2T i9) (aG (aT J (bB (aL (aV 2 J (pf g 0 J (pf g 3 J (dG (hW.ext h) J (mv 1 J ?_)))))))));obtain⟨pp,BA,bn,bc,U,L,aw,ab,V⟩:=(hP.ext h).at (i:=ip) i9;have ag:0<unit^2^ip:=iI (by rw [f];exact iI i9);refine cA mU oN ip pp U J (bG (d5 sH L) J (dP [up A an ac,up BA bn bc] (VS (bX _) (ha.ext h) i9 V.wi i9 i9) J ?_));rintro _ bd ⟨_,rfl,ei,o⟩;refine dO ?_;have W:UpdW lb w bd:=G.trans o;have fh:Ext w bd:=bh.trans o;obtain⟨_,_,_,rfl,⟨bp,az,cv,rfl,dx,dz⟩,⟨bw,cp,br,rfl,dy,ez⟩,rfl⟩:=ei;refine mv 1 J (aA (up bp az cv) J (aA (up bw cp br) J (aA (no 0) J (aE 3 J (aV 1 J (pf g 0 J (pf g 1 J (dG (hW.ext (h.t o)) J (mv 1 J (eQ J J (v:= t9 (IntKind.u64.wrap ((ip:Nat):Int))) (v':= t9 ip) (G2 i9) (pL J J J (r:= no (k*2^ip:Nat)) J (fun w=>a0B (x:=k) (s:=ip) i9 i9 _ _ w) ?_)))))))))));refine aE 1 J (aV 3 J (eC J J J ((ip:Int)-1) (fS J) (mv 2 J (eC J J J (((width:Nat):Int)-((k*2^ip:Nat):Int)) (fS J) (zH J J J (((width-k*2^ip:Nat):Int)) (dP [i5 g 0,up bp az cv,no ((ip:Int)-1),no (width-k*2^ip:Nat)] (ih J (hS.ext (h.t o)) M E X (hW.ext (h.t o)) (hO.ext (h.t o)) Z (a8 Y W.size) dz.wi (by rw [dx];exact em) f I i9 i9 (hP.ext (h.t o)) i9 ao) J ?_))))));rintro _ dt ⟨rfl,_,_,_,bm,aa,H,ba⟩;refine dO ?_;have am:UpdW lb w dt:=W.then H;have da:=(Kept.refl w OA).next ba W.size;refine aG (aK 3 J (eC J J J ((ip:Int)-1) (fS J) (mv 1 J (dP [i5 g 0,up bw cp br,no ((ip:Int)-1),no (k*2^ip:Nat)] (ih J (H.signs (hS.ext (h.t o)) M) M E X bm aa Z (a8 Y am.size) (H.own ez yd yd).wi (by rw [dy];exact du) f I i9 (by rw [qJ aa,f8,zM,tM,←qJ hO];omega) ((hP.ext (h.t o)).updW H) i9 ao) J ?_))));rintro _ dr ⟨rfl,dg,_,_,bo,cj,av,bg⟩;refine dO ?_;have fc:UpdW lb w dr:=am.then av;have bf:=da.next bg am.size;refine cF (sA [] J xl ?_);exact⟨rfl,dg,_,_,bo,(by rw [←T1 (ip:=ip) (width:=width) E ae ah,←f,←List.append_assoc];exact cj),fc,bf⟩
theorem AD:∀ip,CG ip
 | 0=>a0F
 | ip+1=>a0H (AD ip)
structure Rune (bs:List Nat)(p r z:Nat):Prop where
 le:r≤2147483647
 low:bs.getD p 0<128→r=bs.getD p 0∧z=1
 high:128≤bs.getD p 0→128≤r
theorem Rune.dv {z:Nat}(h:Rune bs p r z):dv r=dv (bs.getD p 0):=by
 by_cases h1:bs.getD p 0<128
 ·rw [(h.low h1).1]
 rw [FU (h.high i9),FU i9]
theorem Rune.one {z:Nat}(h:Rune bs p r z)(hd:Go.Proofs.YtkkabncicmhjfaaGreatDoor.dv r<36):z=1∧r=bs.getD p 0∧r<128:=by
 by_cases h1:bs.getD p 0<128
 ·exact⟨(h.low h1).2,(h.low h1).1,by rw [(h.low h1).1];exact h1⟩
 rw [FU (h.high i9)] at hd;omega
theorem VV (hb:∀b,b∈bs→b<256)(hp:p<bs.length):Rune bs p (Utf8.decode (aN bs) p).1 (Utf8.decode (aN bs) p).2:=by
 refine⟨decode_le _ _,fun h=>by rw [a2z hb hp h];exact⟨rfl,rfl⟩,fun h=>?_⟩;have hs:p<(aN bs).size:=by rw [eJ];exact hp
 exact (decode_high (aN bs) p hs (by rw [xA hb hp hs];exact h)).1
section
variable {P:cO}{Q:Exit→Act→a6→Prop}{n:Nat}{l:Fr}{w:a6}{ops:Array bE}{rest:List bE}{d:Nat}{ty:aS}{pos:String}{af:Array Edge}{gd:Option (Nat×Bool)}
theorem S6 {x:cR}(hw:dD ops l gd=some true)(hx:cB l x=some (i5 g 0))(hb:∀b,b∈bs→b<256)(h:It w g bs p)(hp:p<bs.length)(hn:d<n)(k:∀w' r z,Rune bs p r z→It w' g bs (p+z)→Upd g w w'→wl P ops Q n rest ((d,.tuple #[we,no (p:Int),.int .i32 (r:Int)])::l) w'):wl P ops Q n (⟨some d,.next x true,ty,pos,af,gd⟩::rest) l w:=
 S7 hw hx h hp hn fun w' h1 h2=>k w' _ _ (VV hb hp) h1 h2
theorem SC {x y:cR}{z:aF}(hw:dD ops l gd=some true)(hx:cB l x=some (no 0))(hy:cB l y=some (no (k:Int)))(ht:P.underlying t=some (.slice e))(hinfo:(P.info? e).map (fun i=>(i.zero,i.size,i.bytes))=some (some z,1,1))(_hz:z.cells= #[z])(hk:k≤1099511627776)(hd:d<n)(h:∀g w',Own w' w.heap.size e 1 (some ⟨g,0,none⟩) 0 k []→Ext w w'→wl P ops Q n rest ((d,up (some ⟨g,0,none⟩) 0 k)::l) w'):wl P ops Q n (⟨some d,.makeSlice t x y,ty,pos,af,gd⟩::rest) l w:=by
 obtain⟨i,hi,f,G,E⟩:=info_parts hinfo;have hr:=run_make (P:=P) w t e i _ ht hi f .i64 .i64 0 (k:Int) i9 i9 (by rw [E];omega) i9;rw [jB,show (0:Int).toNat=0 from rfl,G] at hr;obtain⟨cs,o,F⟩:∃cs:List aF,madeCells z.cells (k*1)=cs.toArray∧cs.length=k*1:=⟨(madeCells z.cells (k*1)).toList,Array.toArray_toList.symm,by rw [Array.length_toList,size_madeCells]⟩;rw [o] at hr;refine gO hw hd (fun a' H=>?_) (h _ (w.alloc (.cells cs.toArray e)) (cN ⟨w.heap.size,cs,rfl,aU _,Bk.new _ _ _,bX _,by rw [eV];omega,F,rfl⟩) ((Ext.refl w).alloc _));have e':(sS t (a'.eval x) (a'.eval y)).run P w= .ok (up (some ⟨w.heap.size,0,none⟩) 0 k) (w.alloc (.cells cs.toArray e)):=by rw [H.ev hx,H.ev hy];exact hr
 show ((sS t (a'.eval x) (a'.eval y)>>=fun r=>pure (iE r):Sem Next)).run P w=_;rw [cV,e'];rfl
end
theorem a2G {x:Nat}(h:x≤255):eL .u8 (IntKind.u8.wrap (x:Int))= .int .u8 (x:Int):=by rw [IntWalk.u8_in _ ⟨by omega,by omega⟩]
theorem u6 {A B:Int}(ha:A=(a:Int))(hb:B=(b:Int))(h:b≤a:=by omega)(h2:a≤2147483647:=by omega):eY .sub .i32 A B=some ((a-b:Nat):Int):=by
 subst ha hb;simp only [eY,f7];rw [show (a:Int)-(b:Int)=((a-b:Nat):Int) by omega,IntWalk.i32_in _ ⟨by omega,by omega⟩]
structure Rb (b:Nat)(w:a6)(A:Option a7)(n c:Nat)(xs:List Nat):Prop where
 rv:Rv w 1 A n c (xs.map B8)
 wf:∀x,x∈xs→x<b
theorem Rb.ext (h:Rb b w A n c xs)(e:Ext w w'):Rb b w' A n c xs:=⟨h.rv.ext e,h.wf⟩
theorem Rb.len (h:Rb b w A n c xs):xs.length=n:=by simpa using h.rv.len
theorem Rb.dig (h:Rb b w A n c xs)(hi:i<n):xs.getD i 0<b:=by
 have hl:=h.len;refine h.wf _ ?_;rw [bL,cT i9];exact oG i9
theorem Rb.at (_:True)(h:Rb b w A n c xs)(hi:i<n):∃p,A.map (·.add (i*1))=some p∧w.cell? p=some (.int .u8 ((xs.getD i 0:Nat):Int))∧xs.getD i 0<b:=by
 have hl:=h.len;obtain⟨a,rfl,hc⟩:=h.rv.get i i9;refine⟨a.add i,by rw [eH];rfl,?_,h.dig hi⟩;rw [hc,bL,jM,cT i9,bL,cT i9];rfl
theorem Rb.take (h:Rb b w A n c xs)(hk:k≤n):Rb b w A k c (xs.take k):=by
 have hl:=h.len;have f:=h.rv.le;refine⟨⟨by rw [List.length_map,eB,hl];omega,by omega,h.rv.max,fun i hi=>?_,h.rv.blk⟩,fun x hx=>h.wf x (sR hx)⟩;obtain⟨a,o,hc⟩:=h.rv.get i i9;refine⟨a,o,hc.trans ?_⟩;rw [List.map_take,bL,bL,lK,if_pos i9]
theorem Rb.drop (h:Rb b w A n c xs)(hk:k≤n):Rb b w (if c=k then A else A.map (·.add (k*1))) (n-k) (c-k) (xs.drop k):=by
 have o:=h.rv.le;have hl:=h.len;refine⟨⟨by rw [List.length_map,iK,hl,eH],by omega,by have:=h.rv.max;omega,fun i hi=>?_,fun a f hc=>?_⟩,fun x hx=>h.wf x (q9 hx)⟩
 ·rw [if_neg i9];obtain⟨a,rfl,hc⟩:=h.rv.get (k+i) i9;refine⟨a.add (k*1),rfl,?_⟩;rw [eH,Addr.add_add,hc];simp [bL,jM,List.getElem?_drop]
 rw [if_neg i9] at f;cases A with
 | none=>cases f
 | some p=>
  cases f
  rw [vY]
  exact h.rv.blk p J i9
theorem Own.rb (h:Own w lb 5 1 A n c (xs.map B8))(hd:∀x,x∈xs→x<b):Rb b w A n c xs:=⟨h.rv,hd⟩
theorem JD (A:Option a7)(n c k:Nat):qZ (if c=k then A else A.map (·.add (k*1))) (n-k) (c-k)= up (if c=k then A else A.map (·.add (k*1))) (n-k) (c-k):=rfl
section
variable {w:a6}{b:Nat}
theorem VP (hb:b≤w.heap.size){x y:Nat}(hx:Wi w A n c x)(hy:Wi w B m d y)(hN:n+m≤274877906944):aQ aM 107 #[up A n c,up B m d] w (Gv w (WR b (x*y))):=by
 obtain⟨xs,h1,rfl⟩:=hx;obtain⟨ys,h2,rfl⟩:=hy;exact (xS h1 h2 (hN:=hN)).mono (gw hb)
theorem Z7 (hx:Rd w A n cap xs)(hy:Rd w B m cap' ys)(hz:Rd w C k c zs)(hN:n+m≤274877906944)(hk:k≤1099511627775):aQ aM 168 #[up A n cap,up B m cap',up C k c] w (jR w (nv xs*nv ys+nv zs)):=by
 go_enter Tryz.func168,Tryz.ntmps168
 go_wp2_with fail
 refine (ME hx hy hN).mono ?_;rintro e w1 ⟨k1,hk1,g1,z1,rfl,hg1,hb1,hw1,hl1,hv1,hx1⟩
 have hk1b:k1≤n+m:=by
  rw [hk1.out]
  have h1:=iT hx.wf
  have h2:=iT hy.wf
  rw [hx.len] at h1
  rw [hy.len] at h2
  omega
 go_wp2_with fail
 refine (B6 (NewP.rd hb1 hw1 hl1.out i9) i9 (hz.ext hx1) hk).mono ?_;rintro e w2 ⟨A2,n2,c2,rfl,hn2,hr2,ho2,hx2⟩
 go_wp2_with fail
 go_ret
 rw [hv1.out] at hn2 hr2 ho2;exact⟨A2,n2,c2,rfl,hn2,hr2,ho2.mono hx1.size,hx1.trans hx2⟩
theorem VQ (hb:b≤w.heap.size){bn bc cn cc x y z:Nat}(hx:Wi w A an ac x)(hy:Wi w B bn bc y)(hz:Wi w C cn cc z)(hN:an+bn≤274877906944)(hcn:cn≤1099511627775):aQ aM 168 #[up A an ac,up B bn bc,up C cn cc] w (Gv w (WR b (x*y+z))):=by
 obtain⟨xs,h1,rfl⟩:=hx;obtain⟨ys,h2,rfl⟩:=hy;obtain⟨zs,f,rfl⟩:=hz;exact (Z7 h1 h2 f hN hcn).mono (gw hb)
theorem VU (hb:b≤w.heap.size){x y:Nat}(hx:Wi w A n c x)(hl:n≤1099511627775)(hy:Wi w B m d y)(hl':m≤1099511627775):aQ aM 109 #[up A n c,up B m d] w (Gv w (WR b (x+y))):=by
 obtain⟨xs,h1,rfl⟩:=hx;obtain⟨ys,h2,rfl⟩:=hy;exact (B6 h1 hl h2 hl').mono (gw hb)
theorem VO (hb:b≤w.heap.size){x v:Nat}(hx:Wi w A n c x)(hl:n≤137438953472)(hv:v≤18446744073709551615):aQ aM 151 #[up A n c,t9 (v:Int)] w (Gv w (WR b (x*v))):=by
 obtain⟨xs,h1,rfl⟩:=hx;exact (MB h1 hl hv).mono (gw hb)
theorem VR (hb:b≤w.heap.size)(hx:Wi w A n c m)(hl:n≤1099511627776):aQ aM 94 #[up A n c] w (Gv w (WR b m)):=(OQ hx hl).mono (Gv.imp (WR.imp hb))
end
theorem xX (hb2:b≤36)(h:∀d,d∈ds→d<b)(hb:1≤b:=by omega):(wd (cZ b ds)).length≤ds.length:=
 kK (dA (DB hb ds h) (Nat.pow_le_pow_left (by rw [dJ];omega) _))
theorem F4 (hb2:b≤36):(wd (b^n)).length≤n+1:=
 kK (lS (Nat.pow_le_pow_left (show b≤WB by rw [dJ];omega) n) (Nat.pow_lt_pow_right (show 1<WB by rw [dJ];omega) (Nat.lt_succ_self n)))
theorem LD:p*(b*b)^(n/2)*b^(n%2)=p*b^n:=by
 rw [←Nat.pow_two,←Nat.pow_mul,cU,←eS];congr 2;omega
theorem XX (h:n%2=1):p*b*(b*b)^(n/2)=p*b^n:=by
 have:=LD (p:=p) (b:=b) (n:=n);rw [h,Nat.pow_one] at this;rw [←this,cU,cU,dH b]
theorem XZ (h:¬n%2=1):p*(b*b)^(n/2)=p*b^n:=by
 have:=LD (p:=p) (b:=b) (n:=n);rw [show n%2=0 by omega,Nat.pow_zero,eH] at this;exact this
theorem XY (h:n=1):p*b*c^(n/2)=p*b^n:=by subst h;simp
theorem Y2 (h:p*b^n=X)(hp:1≤p)(hb:1≤b)(hn:0<n):b≤X:=by
 rw [←h];have h1:b^1≤b^n:=fZ hb hn;rw [Nat.pow_one] at h1;exact a8 h1 (Nat.le_mul_of_pos_left _ hp)
theorem XW (h:p*b^n=X)(hb:1≤b):p≤X:=by
 rw [←h];exact Nat.le_mul_of_pos_right _ (iI hb)
theorem SV (hk:k≤xs.length):cZ b (pre++xs.take k)=cZ b pre*b^k+cZ b (xs.take k):=by
 rw [IL,eB,iJ hk]
theorem IV (h:i<n)(hn:n≤xs.length):xs.take (i+1)=xs.take i++ [(xs.take n).getD i 0]:=by
 rw [List.take_add_one,bL,lK,if_pos h,cT i9];rfl
theorem VF (hc:c≤2147483647):aQ aM 146 #[.int .i32 ((c:Nat):Int)] w (Gv w (Is (no (dv c:Nat)))):=by
 refine bU Tryz.func146 35 J (sr (aE 1 J (aD (bO (aD ?_)))));by_cases H:c≥48
 ·by_cases G:c≤57
  ·refine aK 1 J (aH J (i8 c 48 J) (mv 2 J (aH J (pS c 57 J) (aA (we) J (aE 1 J (bC J (aV 1 J (eC J J J ((c-48:Nat):Int) (u6 (a:=c) (b:=48) J J) (eQ J J (v:= no (IntKind.i64.wrap ((c-48:Nat):Int))) (v':= no (c-48:Nat)) (sD (by first | omega | exact hle64)) (mv 1 J ?_))))))))));refine aG (bA (gV (cI (aZ [no (c-48:Nat)] J ⟨rfl,xl⟩ ?_))));have f:c-48=dv c:=by unfold dv;(repeat' split) <;> omega
   exact⟨_,rfl,(show eL .i64 ((c-48:Nat):Int)=_ by rw [f]),bN⟩
  refine aK 1 J (aH J (i8 c 48 J) (mv 2 J (aH J (pT c 57 J) (aA (wk) J (aE 1 J (aT J (aD ?_)))))));by_cases F:c≥97
  ·by_cases E:c≤122
   ·refine aK 1 J (aH J (i8 c 97 J) (mv 2 J (aH J (pS c 122 J) (aA (we) J (aE 1 J (bC J (aV 1 J (eC J J J ((c-97:Nat):Int) (u6 (a:=c) (b:=97) J J) (eQ J J (v:= no (IntKind.i64.wrap ((c-97:Nat):Int))) (v':= no (c-97:Nat)) (sD (by first | omega | exact hle64)) (bD J (cK (c-97) 10 J) ?_))))))))));refine aE 1 J (bA (gV (cI (aZ [no ((c-97)+10:Nat)] J ⟨rfl,xl⟩ ?_))));have f:(c-97)+10=dv c:=by unfold dv;(repeat' split) <;> omega
    exact⟨_,rfl,(show eL .i64 (((c-97)+10:Nat):Int)=_ by rw [f]),bN⟩
   refine aK 1 J (aH J (i8 c 97 J) (mv 2 J (aH J (pT c 122 J) (aA (wk) J (aE 1 J (aT J (aD ?_)))))));by_cases o:c≥65
   ·by_cases h:c≤90
    ·refine aK 1 J (aH J (i8 c 65 J) (mv 2 J (aH J (pS c 90 J) (aA (we) J (aE 1 J (bC J (aV 1 J (eC J J J ((c-65:Nat):Int) (u6 (a:=c) (b:=65) J J) (eQ J J (v:= no (IntKind.i64.wrap ((c-65:Nat):Int))) (v':= no (c-65:Nat)) (sD (by first | omega | exact hle64)) (bD J (cK (c-65) 10 J) ?_))))))))));refine aE 1 J (bA (gV (cI (aZ [no ((c-65)+10:Nat)] J ⟨rfl,xl⟩ ?_))));have f:(c-65)+10=dv c:=by unfold dv;(repeat' split) <;> omega
     exact⟨_,rfl,(show eL .i64 (((c-65)+10:Nat):Int)=_ by rw [f]),bN⟩
    refine aK 1 J (aH J (i8 c 65 J) (mv 2 J (aH J (pT c 90 J) (aA (wk) J (aE 1 J (aT J (bB (bT (aL (aV 1 J ?_))))))))));refine aG (bA (aZ [no 36] J ⟨rfl,xl⟩ ?_));have f:36=dv c:=by unfold dv;(repeat' split) <;> omega
    exact⟨_,rfl,(show eL .i64 ((36:Nat):Int)=_ by rw [f]),bN⟩
   refine aK 1 J (aH J (nE c 65 J) (mv 3 J (aA (wk) J (aE 1 J (aT J (bB (bT (aL (sr (bS 1 J ?_))))))))));refine aL (bA (aZ [no 36] J ⟨rfl,xl⟩ ?_));have f:36=dv c:=by unfold dv;(repeat' split) <;> omega
   exact⟨_,rfl,(show eL .i64 ((36:Nat):Int)=_ by rw [f]),bN⟩
  refine aK 1 J (aH J (nE c 97 J) (mv 3 J (aA (wk) J (aE 1 J (aT J (aD ?_))))));by_cases o:c≥65
  ·by_cases h:c≤90
   ·refine aK 1 J (aH J (i8 c 65 J) (mv 2 J (aH J (pS c 90 J) (aA (we) J (aE 1 J (bC J (aV 1 J (eC J J J ((c-65:Nat):Int) (u6 (a:=c) (b:=65) J J) (eQ J J (v:= no (IntKind.i64.wrap ((c-65:Nat):Int))) (v':= no (c-65:Nat)) (sD (by first | omega | exact hle64)) (bD J (cK (c-65) 10 J) ?_))))))))));refine aE 1 J (bA (gV (cI (aZ [no ((c-65)+10:Nat)] J ⟨rfl,xl⟩ ?_))));have f:(c-65)+10=dv c:=by unfold dv;(repeat' split) <;> omega
    exact⟨_,rfl,(show eL .i64 (((c-65)+10:Nat):Int)=_ by rw [f]),bN⟩
   refine aK 1 J (aH J (i8 c 65 J) (mv 2 J (aH J (pT c 90 J) (aA (wk) J (aE 1 J (aT J (bB (bT (aL (aV 1 J ?_))))))))));refine aG (bA (aZ [no 36] J ⟨rfl,xl⟩ ?_));have f:36=dv c:=by unfold dv;(repeat' split) <;> omega
   exact⟨_,rfl,(show eL .i64 ((36:Nat):Int)=_ by rw [f]),bN⟩
  refine aK 1 J (aH J (nE c 65 J) (mv 3 J (aA (wk) J (aE 1 J (aT J (bB (bT (aL (sr (bS 1 J ?_))))))))));refine aL (bA (aZ [no 36] J ⟨rfl,xl⟩ ?_));have f:36=dv c:=by unfold dv;(repeat' split) <;> omega
  exact⟨_,rfl,(show eL .i64 ((36:Nat):Int)=_ by rw [f]),bN⟩
 refine aK 1 J (aH J (nE c 48 J) (mv 3 J (aA (wk) J (aE 1 J (aT J (aD ?_))))));by_cases F:c≥97
 ·by_cases E:c≤122
  ·refine aK 1 J (aH J (i8 c 97 J) (mv 2 J (aH J (pS c 122 J) (aA (we) J (aE 1 J (bC J (aV 1 J (eC J J J ((c-97:Nat):Int) (u6 (a:=c) (b:=97) J J) (eQ J J (v:= no (IntKind.i64.wrap ((c-97:Nat):Int))) (v':= no (c-97:Nat)) (sD (by first | omega | exact hle64)) (bD J (cK (c-97) 10 J) ?_))))))))));refine aE 1 J (bA (gV (cI (aZ [no ((c-97)+10:Nat)] J ⟨rfl,xl⟩ ?_))));have f:(c-97)+10=dv c:=by unfold dv;(repeat' split) <;> omega
   exact⟨_,rfl,(show eL .i64 (((c-97)+10:Nat):Int)=_ by rw [f]),bN⟩
  refine aK 1 J (aH J (i8 c 97 J) (mv 2 J (aH J (pT c 122 J) (aA (wk) J (aE 1 J (aT J (aD ?_)))))));by_cases o:c≥65
  ·by_cases h:c≤90
   ·refine aK 1 J (aH J (i8 c 65 J) (mv 2 J (aH J (pS c 90 J) (aA (we) J (aE 1 J (bC J (aV 1 J (eC J J J ((c-65:Nat):Int) (u6 (a:=c) (b:=65) J J) (eQ J J (v:= no (IntKind.i64.wrap ((c-65:Nat):Int))) (v':= no (c-65:Nat)) (sD (by first | omega | exact hle64)) (bD J (cK (c-65) 10 J) ?_))))))))));refine aE 1 J (bA (gV (cI (aZ [no ((c-65)+10:Nat)] J ⟨rfl,xl⟩ ?_))));have f:(c-65)+10=dv c:=by unfold dv;(repeat' split) <;> omega
    exact⟨_,rfl,(show eL .i64 (((c-65)+10:Nat):Int)=_ by rw [f]),bN⟩
   refine aK 1 J (aH J (i8 c 65 J) (mv 2 J (aH J (pT c 90 J) (aA (wk) J (aE 1 J (aT J (bB (bT (aL (aV 1 J ?_))))))))));refine aG (bA (aZ [no 36] J ⟨rfl,xl⟩ ?_));have f:36=dv c:=by unfold dv;(repeat' split) <;> omega
   exact⟨_,rfl,(show eL .i64 ((36:Nat):Int)=_ by rw [f]),bN⟩
  refine aK 1 J (aH J (nE c 65 J) (mv 3 J (aA (wk) J (aE 1 J (aT J (bB (bT (aL (sr (bS 1 J ?_))))))))));refine aL (bA (aZ [no 36] J ⟨rfl,xl⟩ ?_));have f:36=dv c:=by unfold dv;(repeat' split) <;> omega
  exact⟨_,rfl,(show eL .i64 ((36:Nat):Int)=_ by rw [f]),bN⟩
 refine aK 1 J (aH J (nE c 97 J) (mv 3 J (aA (wk) J (aE 1 J (aT J (aD ?_))))));by_cases o:c≥65
 ·by_cases h:c≤90
  ·refine aK 1 J (aH J (i8 c 65 J) (mv 2 J (aH J (pS c 90 J) (aA (we) J (aE 1 J (bC J (aV 1 J (eC J J J ((c-65:Nat):Int) (u6 (a:=c) (b:=65) J J) (eQ J J (v:= no (IntKind.i64.wrap ((c-65:Nat):Int))) (v':= no (c-65:Nat)) (sD (by first | omega | exact hle64)) (bD J (cK (c-65) 10 J) ?_))))))))));refine aE 1 J (bA (gV (cI (aZ [no ((c-65)+10:Nat)] J ⟨rfl,xl⟩ ?_))));have f:(c-65)+10=dv c:=by unfold dv;(repeat' split) <;> omega
   exact⟨_,rfl,(show eL .i64 (((c-65)+10:Nat):Int)=_ by rw [f]),bN⟩
  refine aK 1 J (aH J (i8 c 65 J) (mv 2 J (aH J (pT c 90 J) (aA (wk) J (aE 1 J (aT J (bB (bT (aL (aV 1 J ?_))))))))));refine aG (bA (aZ [no 36] J ⟨rfl,xl⟩ ?_));have f:36=dv c:=by unfold dv;(repeat' split) <;> omega
  exact⟨_,rfl,(show eL .i64 ((36:Nat):Int)=_ by rw [f]),bN⟩
 refine aK 1 J (aH J (nE c 65 J) (mv 3 J (aA (wk) J (aE 1 J (aT J (bB (bT (aL (sr (bS 1 J ?_))))))))));refine aL (bA (aZ [no 36] J ⟨rfl,xl⟩ ?_));have f:36=dv c:=by unfold dv;(repeat' split) <;> omega
 exact⟨_,rfl,(show eL .i64 ((36:Nat):Int)=_ by rw [f]),bN⟩
theorem VG (hbl:2≤base)(hbu:base≤36)(hn:n≤68719476736):aQ aM 169 #[no base,no n] w (Gv w (WR w.heap.size (base^n))):=by
 refine bU Tryz.func169 26 J (sr (aE 1 J (sr (iF J J (k:=1) (e:=43) [t9 1] ye fun g1 _ Y=>?_))));have o4:=O1.mk_ (x:=1) (b:=w.heap.size) Y (Ext.refl w).size;have h:=(Ext.refl w).trans (Y.ext);have o7:=vB o4 (show 1≤18446744073709551615 by decide) (show 1≠0 by decide);have j6:=vP (show 1≤18446744073709551615 by decide) (show 1≠0 by decide);refine mv 1 J (mL base J (iF J J (k:=1) (e:=43) [t9 base] ye fun g8 v9 I=>?_));have ai:=O1.mk_ (x:=base) (b:=w.heap.size) I h.size;have Z:=I.ext;have o:=h.trans Z;have ar:=vB ai (show base≤18446744073709551615 by omega) (show base≠0 by omega);have aj:=vP (show base≤18446744073709551615 by omega) (show base≠0 by omega);refine aE 2 J (aD (bO ?_));refine dC (T:=a6×Nat×Nat×Nat×Option a7×Nat×Nat×Option a7×Nat×Nat) (fun⟨wr,e,p,b,PA,pn,pc,BA,bn,bc⟩=> [(0,no base),(1,no e),(5,up PA pn pc),(6,up BA bn bc)]) (fun⟨wr,e,p,b,PA,pn,pc,BA,bn,bc⟩=>wr) (fun⟨wr,e,p,b,PA,pn,pc,BA,bn,bc⟩=>(Ext w wr)∧(p*b^e=base^n)∧(1≤p)∧(1≤b)∧(pn=(wd p).length)∧(bn=(wd b).length)∧(Own wr w.heap.size 43 1 PA pn pc ((wd p).map bF))∧(Own wr w.heap.size 43 1 BA bn bc ((wd b).map bF))∧(e≤n)) (fun⟨wr,e,p,b,PA,pn,pc,BA,bn,bc⟩=>e) (⟨v9,n,1,base,(some ⟨g1,0,none⟩),1,1,(some ⟨g8,0,none⟩),1,1⟩:a6×Nat×Nat×Nat×Option a7×Nat×Nat×Option a7×Nat×Nat) ⟨o,(by rw [Nat.one_mul]),yd,i9,j6,aj,(o7.ext Z),ar,(aU _)⟩ J (aP J) ?_;rintro⟨wr,e,p,b,PA,pn,pc,BA,bn,bc⟩ ⟨h,M,G,f,L,U,H,E,he⟩;refine aD (aD ?_);by_cases F:e>0
 ·have ch:=a8 (iP (XW M f)) (F4 (n:=n) hbu);have bj:=a8 (iP (Y2 M G f F)) (F4 (n:=n) hbu);refine aK 1 J (aH J (gB e 0 J) (aG (bC J (bB (aL (aD (bO (aD (aD ?_)))))))));by_cases ho:e%2=1
  ·refine aK 1 J (bD J (kT e 2 J) (aH J (gZ (e%2) 1 J) (aG (bC J (aK 2 J (bI [up PA pn pc,up BA bn bc] h (VP h.size H.wi E.wi i9) J ?_))))));rintro _ ao ⟨ab,aa,X,rfl,V,W⟩ ae o;refine aE 1 J (aD ?_);by_cases hg:e>1
   ·refine aK 1 J (aH J (gB e 1 J) (aG (bC J (aK 1 J (bI [up BA bn bc] o (DW o.size (E.ext ae).wi) J ?_)))));rintro _ ah ⟨aw,bg,bd,rfl,az,am⟩ au aq;refine bS 1 J (bT (aL (aK 1 J (bD J (nD e 2 J) (bS 1 J (cP (⟨ah,e/2,p*b,b*b,ab,aa,X,aw,bg,bd⟩:a6×Nat×Nat×Nat×Option a7×Nat×Nat×Option a7×Nat×Nat) ⟨aq,(by rw [XX ho];exact M),(by first | decide | omega | exact jZ G f),(by first | assumption | exact jZ f f),V,az,(W.ext au),am,(a8 (gN _ _) he)⟩ (m0 F yd) J (aP J)))))))
   refine aK 1 J (aH J (i7 e 1 J) (aG (aT J (bB (bT (aL (aK 1 J (bD J (nD e 2 J) (bS 1 J (cP (⟨ao,e/2,p*b,b,ab,aa,X,BA,bn,bc⟩:a6×Nat×Nat×Nat×Option a7×Nat×Nat×Option a7×Nat×Nat) ⟨o,(by rw [XY i9];exact M),(by first | decide | omega | exact jZ G f),(by first | assumption | exact jZ f f),V,U,W,(E.ext ae),(a8 (gN _ _) he)⟩ (m0 F yd) J (aP J)))))))))))
  refine aK 1 J (bD J (kT e 2 J) (aH J (hJ (e%2) 1 J) (aG (aT J (bB (aL (aD ?_)))))));by_cases hg:e>1
  ·refine aK 1 J (aH J (gB e 1 J) (aG (bC J (aK 1 J (bI [up BA bn bc] h (DW h.size E.wi) J ?_)))));rintro _ bf ⟨ag,ba,bh,rfl,ak,av⟩ iB o;refine bS 1 J (bT (aL (aK 1 J (bD J (nD e 2 J) (bS 1 J (cP (⟨bf,e/2,p,b*b,PA,pn,pc,ag,ba,bh⟩:a6×Nat×Nat×Nat×Option a7×Nat×Nat×Option a7×Nat×Nat) ⟨o,(by rw [XZ ho];exact M),(by first | decide | omega | exact jZ G f),(by first | assumption | exact jZ f f),L,ak,(H.ext iB),av,(a8 (gN _ _) he)⟩ (m0 F yd) J (aP J)))))))
  refine aK 1 J (aH J (i7 e 1 J) (aG (aT J (bB (bT (aL (aK 1 J (bD J (nD e 2 J) (bS 1 J (cP (⟨wr,e/2,p,b,PA,pn,pc,BA,bn,bc⟩:a6×Nat×Nat×Nat×Option a7×Nat×Nat×Option a7×Nat×Nat) ⟨h,i9,(by first | decide | omega | exact jZ G f),(by first | assumption | exact jZ f f),L,U,H,E,(a8 (gN _ _) he)⟩ (m0 F yd) J (aP J)))))))))))
 refine aK 1 J (aH J (i7 e 0 J) (aG (aT J (d9 (cY (d7 (d8 (aL (sr (aE 2 J (bA ?_)))))))))));refine aZ [up PA pn pc] J ⟨rfl,xl⟩ ?_;have e0:e=0:=by omega
 subst e0;rw [Nat.pow_zero,eH] at M;subst M;exact⟨_,rfl,⟨_,_,_,rfl,L,H⟩,h⟩
theorem SU (hl:ds.length=n)(hk:k≤n):cZ b (ds.take (n-k))*b^k+cZ b (ds.drop (n-k))=cZ b ds:=by
 have h:=IL b (ds.take (n-k)) (ds.drop (n-k));rw [uJ,iK,hl,show n-(n-k)=k by omega] at h;exact h.symm
theorem PieceK.pos (h:PieceK b k)(hb:b≤36):1≤k:=by
 rcases Nat.eq_zero_or_pos k with e | e
 ·have:=h.gt;rw [e,eR,Nat.pow_one] at this;omega
 exact e
theorem UD {v x:Nat}(hk:PieceK b k)(hb:1≤b)(hi:i+1≤k)(hv:v<b^i)(hx:x<b):v*b+x≤18446744073709551615∧b^i*b≤18446744073709551615:=by
 have h1:b^(i+1)≤b^k:=fZ hb hi;rw [dS] at h1;have h2:=hk.le;have f:(v+1)*b≤b^i*b:=fC b hv;rw [eE,Nat.one_mul] at f;exact⟨by omega,by omega⟩
theorem a0e {x:Nat}(h:x≤18446744073709551615):(wd x).length≤1:=kK (by rw [Nat.pow_one,dJ];omega)
theorem EU (h:∀x,x∈xs→x<b)(k:Nat):∀x,x∈xs.take k→x<b:=fun x hx=>h x (sR hx)
theorem ZD (h:∀x,x∈xs→x<b)(k:Nat):∀x,x∈xs.drop k→x<b:=fun x hx=>h x (q9 hx)
def QU (N:Nat):Prop:=∀{w:a6}{A:Option a7}{n c base:Nat}{ds:List Nat},n≤N→2≤base→base≤36→Rb base w A n c ds→n≤17179869184→
 aQ aM 147 #[up A n c,no base] w (Gv w (WR w.heap.size (cZ base ds)))
theorem VH (ih:QU N)(hnN:n≤N+1)(hbl:2≤base)(hbu:base≤36)(hd:Rb base w A n c ds)(hn:n≤17179869184)(hbig:200<n):aQ aM 147 #[up A n c,no base] w (Gv w (WR w.heap.size (cZ base ds))):=by
 have cm:(wd (cZ base (ds.take (n-(n/2))))).length≤n:=by have:=xX hbu (EU hd.wf (n-(n/2)));rw [eB,hd.len] at this;omega
 have ct:(wd (cZ base (ds.drop (n-(n/2))))).length≤n:=by have:=xX hbu (ZD hd.wf (n-(n/2)));rw [iK,hd.len] at this;omega
 have cp:(wd (base^(n/2))).length≤n/2+1:=F4 hbu;refine bU Tryz.func147 81 J (sr (aE 1 J (aD (aV 1 J (aA (no n) J (aH J (gB n 200 J) (aG (bC J (aV 1 J ?_)))))))));refine aA (no n) J (bD J (nD n 2 J) (aE 1 J (aV 1 J (aA (no n) J (mv 1 J (bD J (iU n (n/2) J) (aE 1 J (aD ?_))))))));refine dW cM 14 [] [Is (up A n c),Is (no (n-(n/2):Nat)),Is (up A (n-(n/2)) c),Is (no base),WR w.heap.size (cZ base (ds.take (n-(n/2)))),Is (no base),Is (no (n/2:Nat)),WR w.heap.size (base^(n/2)),Is (up A n c),Is (no (n-(n/2):Nat)),Is (.slice (if c=n-(n/2) then A else A.map (·.add ((n-(n/2))*1))) (n-(n-(n/2))) (c-(n-(n/2)))),Is (no base),WR w.heap.size (cZ base (ds.drop (n-(n/2)))),WR w.heap.size ((cZ base (ds.take (n-(n/2))))*(base^(n/2))+(cZ base (ds.drop (n-(n/2)))))] [[],[],[0,1],[],[2,3],[],[],[5,6],[],[],[8,9],[],[10,11],[4,7,12]] rfl (bY J ?_ ?_ ?_ ?_ (bY J ?_ ?_ ?_ ?_ (bY J ?_ ?_ ?_ ?_ (cG J ?_ (cG J ?_ dN))))) ?_
 ·exact fun _ _=>aC (mv 1 J (aI J))
 ·exact fun _ _=>aC (mv 1 J (aI J))
 ·exact fun _ bu=>aY J (aC (mS J J m8 m9 (lo:=0) (hi:=n-(n/2)) J J i9 (by have:=(hd.ext bu).rv.le;omega) (v:= up A (n-(n/2)) c) (zW _ _ _) yd (aI J)))
 ·exact fun _ _=>aC (mv 1 J (aI J))
 ·intro _ iB;have f:=(Ext.refl w).trans iB;refine aY J (aC (bI [up A (n-(n/2)) c,no base] f ((ih i9 hbl hbu ((hd.take (k:=n-(n/2)) i9).ext iB) i9).mono (Gv.imp (WR.imp f.size))) J ?_));rintro _ _ ⟨_,_,_,rfl,bm,br⟩ bw ar;exact bQ J bw ⟨_,_,_,rfl,bm,br⟩
 ·exact fun _ _=>aC (mv 1 J (aI J))
 ·exact fun _ _=>aC (mv 1 J (aI J))
 ·intro _ bi;have f:=(Ext.refl w).trans bi;refine aY J (aC (bI [no base,no (n/2:Nat)] f ((VG (n:=n/2) hbl hbu i9).mono (Gv.imp (WR.imp f.size))) J ?_));rintro _ _ ⟨_,_,_,rfl,bp,bg⟩ ch ar;exact bQ J ch ⟨_,_,_,rfl,bp,bg⟩
 ·exact fun _ _=>aC (mv 1 J (aI J))
 ·exact fun _ _=>aC (mv 1 J (aI J))
 ·exact fun _ bj=>aY J (aC (mS J J m8 m9 (lo:=n-(n/2)) (hi:=n) J J i9 (by have:=(hd.ext bj).rv.le;omega) (v:= .slice (if c=n-(n/2) then A else A.map (·.add ((n-(n/2))*1))) (n-(n-(n/2))) (c-(n-(n/2)))) (JD _ _ _ _) yd (aI J)))
 ·exact fun _ _=>aC (mv 1 J (aI J))
 ·intro _ Y;have f:=(Ext.refl w).trans Y;refine aY J (aC (bI [.slice (if c=n-(n/2) then A else A.map (·.add ((n-(n/2))*1))) (n-(n-(n/2))) (c-(n-(n/2))),no base] f ((ih i9 hbl hbu ((hd.drop (k:=n-(n/2)) i9).ext Y) i9).mono (Gv.imp (WR.imp f.size))) J ?_));rintro _ _ ⟨_,_,_,rfl,bh,ci⟩ bd ar;exact bQ J bd ⟨_,_,_,rfl,bh,ci⟩
 ·intro _ bo;have f:=(Ext.refl w).trans bo;refine aW J ?_;rintro _ _ ⟨Z,av,ak,rfl,_,o⟩ _ bf;have o:=o.ext bf;refine aW J ?_;rintro _ _ ⟨ba,ao,L,rfl,_,h⟩ _ aq;have h:=h.ext aq;refine aW J ?_;rintro _ _ ⟨au,W,ab,rfl,_,E⟩ _ U;have E:=E.ext U;refine aC (bI [up Z av ak,up ba ao L,up au W ab] f (VQ f.size o.wi h.wi E.wi i9 i9) J ?_);rintro _ _ ⟨_,_,_,rfl,ag,M⟩ ai _;exact bQ J ai ⟨_,_,_,rfl,ag,M⟩
 intro _ aw;have f:=(Ext.refl w).trans aw;refine d6 J (aW J ?_);rintro _ _ ⟨_,_,_,rfl,_,H⟩ _ aa;have H:=H.ext aa;refine aY J (aW J ?_);rintro _ _ ⟨_,_,_,rfl,_,G⟩ _ X;have G:=G.ext X;refine d6 J (aW J ?_);rintro _ _ ⟨_,_,_,rfl,_,I⟩ _ aj;have I:=I.ext aj;refine aW J ?_;rintro _ _ ⟨az,ah,V,rfl,ae,F⟩ _ am;have F:=F.ext am;refine aC (bS 1 J (dM (aL (bA (cI (aZ [up az ah V] J ⟨rfl,xl⟩ ?_))))));have hv:(cZ base (ds.take (n-(n/2))))*(base^(n/2))+(cZ base (ds.drop (n-(n/2))))=cZ base ds:=SU hd.len i9;exact⟨_,rfl,⟨_,_,_,rfl,hv▸ae,hv▸F⟩,f⟩
theorem JV (hbl:2≤base)(hbu:base≤36)(hd:Rb base w A n c ds)(hlow:n≤200):aQ aM 147 #[up A n c,no base] w (Gv w (WR w.heap.size (cZ base ds))):=by
 refine bU Tryz.func147 81 J (sr (aE 1 J (aD (aV 1 J (aA (no n) J (aH J (i7 n 200 J) (aG (aT J (bB (aL ?_))))))))));refine aV 1 J (dP [no base] (JU hbl hbu) J ?_);rintro _ v1 ⟨f,p5,_,rfl,r3,e2⟩;have br:=p5.pos hbu;have bi:=p5.le64;refine dO ?_;have o:=(Ext.refl w).trans e2;obtain⟨_,_,rfl,rfl,rfl⟩:=r3;refine mv 1 J (aA (no f) J (aA (t9 (base^f:Nat)) J (aE 2 J (sr (aE 1 J (aD (bO ?_)))))));refine dC (T:=a6×List Nat×List Nat×Option a7×Nat×Nat×Option a7×Nat×Nat) (fun⟨wr,pre,rest,DA,dn,dc,QA,qn,qc⟩=> [(0,up DA dn dc),(1,no base),(7,no f),(9,up QA qn qc)]) (fun⟨wr,pre,rest,DA,dn,dc,QA,qn,qc⟩=>wr) (fun⟨wr,pre,rest,DA,dn,dc,QA,qn,qc⟩=>(Ext w wr)∧(pre++rest=ds)∧(qn=(wd (cZ base pre)).length)∧(Own wr w.heap.size 43 1 QA qn qc ((wd (cZ base pre)).map bF))∧(Rb base wr DA dn dc rest)) (fun⟨wr,pre,rest,DA,dn,dc,QA,qn,qc⟩=>dn) (⟨v1,[],ds,A,n,c,none,0,0⟩:a6×List Nat×List Nat×Option a7×Nat×Nat×Option a7×Nat×Nat) ⟨o,rfl,rfl,(Own.nil _ _ _ _),(hd.ext e2)⟩ J (aP J) ?_;rintro⟨wr,pre,rest,DA,dn,dc,QA,qn,qc⟩ ⟨o,E,av,H,h⟩;refine aD (aD ?_);by_cases bw:dn>0
 ·refine aK 1 J (aA (no dn) J (aH J (gB dn 0 J) (aG (bC J (bB (aL (bO (aV 2 J (aA (no dn) J (IB J J J (((min f dn:Nat):Int)) i9 yd (mv 1 J ?_)))))))))));refine aG (sr (aE 2 J (aD (aV 2 J (mS J J m8 m9 (lo:=0) (hi:=min f dn) J J i9 (by have:=h.rv.le;omega) (v:= up DA (min f dn) dc) (zW _ _ _) yd (aA (no ((min f dn):Nat)) J (aE 1 J (bO ?_))))))));refine dC (T:=a6×Nat×Nat×Nat) (fun⟨wq,i,v,p⟩=> [(0,up DA dn dc),(1,no base),(7,no f),(10,no (min f dn:Nat)),(9,up QA qn qc),(11,t9 v),(12,t9 p),(53,up DA (min f dn) dc),(54,no ((min f dn):Nat)),(55,no i)]) (fun⟨wq,i,v,p⟩=>wq) (fun⟨wq,i,v,p⟩=>(Ext w wq)∧(i≤min f dn)∧(v=cZ base (rest.take i))∧(p=base^i)∧(Own wq w.heap.size 43 1 QA qn qc ((wd (cZ base pre)).map bF))∧(Rb base wq DA dn dc rest)∧(Rb base wq DA (min f dn) dc (rest.take (min f dn)))) (fun⟨wq,i,v,p⟩=>min f dn-i) (⟨wr,0,0,1⟩:a6×Nat×Nat×Nat) ⟨o,(bX _),rfl,rfl,H,h,(h.take (k:=min f dn) i9)⟩ J (aP J) ?_;rintro⟨wq,i,v,p⟩ ⟨o,hi,Z,G,H,h,F⟩;refine aD ?_;by_cases L:i<min f dn
  ·have hx:=F.dig (i:=i) L;have bh:v<base^i:=by rw [Z];have:=DB (b:=base) i9 (rest.take i) (EU h.wf i);rwa [eB,iJ (by rw [h.len];omega)] at this
   have Y:=UD p5 i9 (show i+1≤f by omega) bh hx;rw [←G] at Y;obtain⟨_,_⟩:=Y;refine bH (aH J (dV i (min f dn) J) (aG (aD (bC J (bB (aL (aD (bO (sr ?_)))))))));obtain⟨p7,ao,bg,_⟩:=(F).at yd (i:=i) i9;refine cA m8 m9 i p7 ao J (bG (d5 GJ bg) J (aE 1 J (aV 2 J (mL base J (bD J (lV v base J) (mv 1 J (mL ((rest.take (min f dn)).getD i 0) J (bD J (jC (v*base) ((rest.take (min f dn)).getD i 0) J) (aE 1 J (bH ?_))))))))));refine mv 2 J (mL base J (bD J (lV p base J) (bS 1 J (bT (aL (bH (bD J (cK i 1 J) (bS 1 J (cP (⟨wq,i+1,v*base+(rest.take (min f dn)).getD i 0,p*base⟩:a6×Nat×Nat×Nat) ⟨o,i9,(by rw [IV L (by rw [h.len];omega),zK,←Z]),(by rw [G,dS]),H,h,F⟩ (show min f dn-(i+1)<min f dn-i by omega) J (aP J))))))))))
  have ab:i=min f dn:=by omega
  have U:p≤18446744073709551615:=by rw [G];exact a8 (fZ i9 i9) p5.le
  have au:v≤18446744073709551615:=by have:=DB (b:=base) i9 (rest.take i) (EU h.wf i);rw [eB,iJ (by rw [h.len];omega),←G,←Z] at this;omega
  have bj:(wd (cZ base pre)).length≤200:=by have h1:=xX hbu (ds:=pre) (fun x hx=>hd.wf x (by rw [←E];exact List.mem_append_left _ hx));have h2:=hd.len;rw [←E,f8] at h2;omega
  have ci:(wd (cZ base pre*p)).length≤201:=by have:=xV (cZ base pre) p;have:=a0e U;omega
  have hm:cZ base (pre++rest.take (min f dn))=cZ base pre*p+v:=by rw [←ab,SV (by rw [h.len];omega),G,Z]
  refine bH (aH J (dQ i (min f dn) J) (aG (aD (aT J (d9 (cY (d7 (d8 (aL (aV 2 J (bI [up QA qn qc,t9 p] o (VO o.size H.wi i9 U) J ?_)))))))))));rintro _ _ ⟨ah,ag,ak,rfl,_,ai⟩ e9 X;refine mv 1 J (iF J J (k:=1) (e:=43) [t9 v] ye fun bf _ M=>?_);have ba:=O1.mk_ (x:=v) (b:=w.heap.size) M X.size;have I:=M.ext;have V:=X.trans I;refine bI [up ah ag ak,up (some ⟨bf,0,none⟩) 1 1] V (VU V.size (ai.ext I).wi i9 (EH ba au) yd) J ?_;rintro _ aj ⟨aq,az,aw,rfl,ar,am⟩ W bd;refine aE 1 J (aK 2 J (mS J J m8 m9 (lo:=min f dn) (hi:=dn) J J i9 (by have:=(h.ext (e9.t (I.t W))).rv.le;omega) (v:= .slice (if dc=min f dn then DA else DA.map (·.add ((min f dn)*1))) (dn-(min f dn)) (dc-(min f dn))) (JD _ _ _ _) yd (bS 1 J (bT (cP (⟨aj,pre++rest.take (min f dn),rest.drop (min f dn),if dc=min f dn then DA else DA.map (·.add ((min f dn)*1)),dn-(min f dn),dc-(min f dn),aq,az,aw⟩:a6×List Nat×List Nat×Option a7×Nat×Nat×Option a7×Nat×Nat) ⟨bd,(by rw [List.append_assoc,uJ];exact E),(by rw [hm];exact ar),(by rw [hm];exact am),((h.ext (e9.t (I.t W))).drop (k:=min f dn) i9)⟩ (show dn-min f dn<dn by omega) J (aP J))))))
 refine aK 1 J (aA (no dn) J (aH J (i7 dn 0 J) (aG (aT J (d9 (cY (d7 (d8 (aL (sr (bS 2 J ?_)))))))))));refine aL (bA (aZ [up QA qn qc] J ⟨rfl,xl⟩ ?_));have ae:rest= []:=uK.1 (by have:=h.len;omega);rw [ae,List.append_nil] at E;exact⟨_,rfl,⟨_,_,_,rfl,E▸av,E▸H⟩,o⟩
theorem JW:∀N,QU N
 | 0=>fun hn hbl hbu hd _=>JV hbl hbu hd i9
 | N+1=>by
  intro hn hbl hbu hd hm
  rename_i w A n c base ds
  by_cases h:200<n
  ·exact VH (JW N) hn hbl hbu hd hm h
  ·exact JV hbl hbu hd i9
theorem VI (hb:b≤w.heap.size)(hbl:2≤base)(hbu:base≤36)(hd:Rb base w A n c ds)(hn:n≤17179869184):aQ aM 147 #[up A n c,no base] w (Gv w (WR b (cZ base ds))):=
 (JW n (aU _) hbl hbu hd hn).mono (Gv.imp (WR.imp hb))
theorem BG (h:i<l.length):l.getD i 0∈l:=by
 rw [bL,cT h];exact oG h
theorem FX (h:∀c,c∈l→dv c<b):∀x,x∈l.map dv→x<b:=by
 intro x hx;obtain⟨c,hc,rfl⟩:=m4.1 hx;exact h c hc
theorem JX (hbl:2≤base)(hbu:base≤36)(hbs:∀b,b∈bs→b<256)(hlen:bs.length≤17179869184):aQ aM 114 #[.string (aN bs),no base] w (fun e w'=>(fH base bs→Gv w (T2 (WR w.heap.size (cZ base (bs.map dv))) (Is (no 0))) e w')∧(¬fH base bs→Gv w (T2 (Is (up none 0 0)) (Is (no 7))) e w')):=by
 refine bU Tryz.func114 41 J (sr (aE 2 J (aD (aV 1 J (aH J (dQ base 2 J) (mv 2 J (aH J (i7 base 36 J) (aA (wk) J (aG (aT J ?_))))))))));refine bB (aL (aV 1 J (eQ J J (v:= no ((aN bs).size:Nat)) (v':= no (bs.length:Nat)) (by rw [eJ]) (SC (k:=bs.length) J J J m8 vQ J i9 yd fun g1 _ aa e4=>?_))));have aa:=aa.mono (Ext.refl w).size;have o:=(Ext.refl w).trans e4;refine aE 1 J (aD (aV 1 J (S3 (bs:=bs) J J Tryz.underlying9 yd fun g5 v6 au br e9=>?_)));have ar:w.heap.size≤g5:=by rw [←au];exact o.size
 clear au;have F:=o.trans e9;refine aG (bO ?_);refine dC (T:=a6×Nat×Option a7×Nat) (fun⟨wr,p,OA,oc⟩=> [(0,.string (aN bs)),(1,no base),(6,up OA p oc),(20,i5 g5 0)]) (fun⟨wr,p,OA,oc⟩=>wr) (fun⟨wr,p,OA,oc⟩=>(Ext w wr)∧(It wr g5 bs p)∧(Own wr w.heap.size 5 1 OA p oc (((bs.take p).map dv).map B8))∧(p≤bs.length)∧(∀c,c∈bs.take p→dv c<base)) (fun⟨wr,p,OA,oc⟩=>bs.length-p) (⟨v6,0,(some ⟨g1,0,none⟩),bs.length⟩:a6×Nat×Option a7×Nat) ⟨F,br,(aa.ext e9),(bX _),(fun c hc=>absurd hc ym)⟩ J (aP J) ?_;rintro⟨wr,p,OA,oc⟩ ⟨o,hI,hO,hp,hg⟩;refine aD ?_;by_cases ag:p<bs.length
 ·refine bH ?_;have M:=hI;refine S6 J J hbs M i9 yd fun _ f _ E W ah=>?_;have F:=ah.ext o ar;refine aA (we) J (aG (aD (bC J (bB (aL (bO (sr (aA (.int .i32 ((f:Nat):Int)) J (aE 1 J (aV 1 J (bI [.int .i32 ((f:Nat):Int)] F (VF E.le) J ?_)))))))))));rintro _ _ rfl Z I;refine aE 1 J (aD (aD ?_));by_cases cp:dv f≥base
  ·have H:¬fH base bs:=fun h=>by have:=h.2 (bs.getD p 0) (BG ag);rw [←E.dv] at this;omega
   refine aK 2 J (aH J (i8 (dv f) base J) (aG (bC J (sr (aE 2 J (bA (cI (gV (oC (gV (cI ?_)))))))))));refine aZ [S0,no 7] J ⟨rfl,rfl,xl⟩ ?_;exact⟨fun h=>absurd h H,fun _=>⟨_,rfl,⟨_,_,rfl,rfl,rfl⟩,I⟩⟩
  have h1z:=E.one i9;have bh:=a15 f;refine aK 2 J (aH J (nE (dv f) base J) (aG (aT J (bB (aL (aK 2 J (eQ J J (v:= .int .u8 (IntKind.u8.wrap ((dv f:Nat):Int))) (v':= .int .u8 ((dv f:Nat):Int)) (a2G i9) (iF J J (k:=1) (e:=5) [.int .u8 ((dv f:Nat):Int)] ye fun _ _ nb=>?_))))))));have aj:=nb.bk;have iB:=nb.ext;clear nb;have av:=I.trans iB;have G:=((hO.updI M ah).ext (Z.t iB));refine nR J J J m8 vQ J G av.size [.int .u8 ((dv f:Nat):Int)] J (vC _ aj) J fun ak ai ab am X _=>?_;have bj:=X.ext av (fun p hp=>(G.block p hp).1);have U:Own ab w.heap.size 5 1 ak (p+1) ai ((((bs.take p).map dv)++ [dv f]).map B8):=by have h:=am;simp only [List.map_append,List.map_cons,List.map_nil] at h⊢;exact h
  refine bS 1 J (bT ?_);have ao:bs.take (p+1)=bs.take p++ [bs.getD p 0]:=by have:=IV (n:=bs.length) ag (aU _);rwa [List.take_length] at this
  have aq:=E.dv;refine cP (⟨ab,p+1,ak,ai⟩:a6×Nat×Option a7×Nat) ⟨bj,(by have h:=((W.ext (Z.t iB)).updO X (NT G (W.ext (Z.t iB))));rwa [h1z.1] at h),(by rw [ao,List.map_append];rw [aq] at U;exact U),i9,(by rw [ao];intro c hc;rcases List.mem_append.1 hc with h | h;(· exact hg c h);(· rw [rB.1 h,←aq];omega))⟩ (show bs.length-(p+1)<bs.length-p by omega) rfl (aP rfl)
 have L:p=bs.length:=by omega
 refine bH ?_;have ae:=hI;refine S5 J J ae i9 yd (aA (wk) J (aG (aD (aT J (d9 (cY (d7 (d8 (aL (aD (aD ?_)))))))))));by_cases hz:p=0
 ·have H:¬fH base bs:=fun h=>h.1 (uK.1 i9);refine aK 1 J (aA (no p) J (aH J (gZ p 0 J) (aG (bC J (sr (aE 2 J (bA (cI (aZ [S0,no 7] J ⟨rfl,rfl,xl⟩ ?_)))))))));exact⟨fun h=>absurd h H,fun _=>⟨_,rfl,⟨_,_,rfl,rfl,rfl⟩,o⟩⟩
 have Y:fH base bs:=⟨fun e=>by rw [e] at L;simp at L;omega,by have:=hg;rwa [L,List.take_length] at this⟩;have ct:(wd (cZ base ((bs.take p).map dv))).length≤p:=by have:=xX (b:=base) hbu (ds:=(bs.take p).map dv) (FX hg);rw [List.length_map,eB] at this;omega
 refine aK 1 J (aA (no p) J (aH J (hJ p 0 J) (aG (aT J (bB (aL (aV 2 J (bI [up OA p oc,no base] o (VI o.size hbl hbu (hO.rb (FX hg)) i9) J ?_))))))));rintro _ _ ⟨bm,bd,az,rfl,_,bo⟩ _ F;refine bI [up bm bd az] F (VR F.size bo.wi i9) J ?_;rintro _ _ ⟨aw,bi,bf,rfl,bg,bp⟩ _ I;refine aE 2 J (bA (aZ [up aw bi bf,I0] J ⟨rfl,rfl,xl⟩ ?_));have V:cZ base ((bs.take p).map dv)=cZ base (bs.map dv):=by rw [L,List.take_length]
 exact⟨fun _=>⟨_,rfl,⟨_,_,rfl,⟨_,_,_,rfl,V▸bg,V▸bp⟩,rfl⟩,I⟩,fun h=>absurd Y h⟩
theorem VM (hb:b≤w.heap.size)(hbl:2≤base)(hbu:base≤36)(hbs:∀b,b∈bs→b<256)(hlen:bs.length≤17179869184)(hg:fH base bs):aQ aM 114 #[.string (aN bs),no base] w (Gv w (T2 (WR b (cZ base (bs.map dv))) (Is (no 0)))):=(JX hbl hbu hbs hlen).mono fun _e _w' h=>Gv.imp (T2.imp (WR.imp hb) Is.imp) _ _ (h.1 hg)
theorem VN (hbl:2≤base)(hbu:base≤36)(hbs:∀b,b∈bs→b<256)(hlen:bs.length≤17179869184)(hg:¬fH base bs):aQ aM 114 #[.string (aN bs),no base] w (Gv w (T2 (Is (up none 0 0)) (Is (no 7)))):=(JX hbl hbu hbs hlen).mono fun _e _w' h=>h.2 hg
theorem VL (hS:Signs w)(hx:Wi w A an ac m)(hal:an≤4194304)(hbl:2≤base)(hbu:base≤36):aQ aM 143 #[up A an ac,no base] w (Gv w (T2 (Is (.string (aN (gE base m)))) (Is (no 0)))):=by
 have av:(wd m).length≤4194304:=a8 hx.len hal;have Y:0+max 0 (db base m).length≤137438953472:=by have:=vM hbl av;omega
 refine bU Tryz.func143 73 J (sr (aE 2 J (aD (aV 1 J (aH J (dQ base 2 J) (mv 2 J (aH J (i7 base 36 J) (aA (wk) J (aG (aT J ?_))))))))));refine bB (aL (aV 1 J (bI [up A an ac] bN (OQ (hx.ext bN) i9) J ?_)));rintro _ _ ⟨A4,o,c4,rfl,j4,o4⟩ _ ak;refine aE 1 J (aD (aD ?_));by_cases dx:o=0
 ·have ab:m=0:=oA.1 i9;refine aK 1 J (aA (no o) J (aH J (gZ o 0 J) (aG (bC J (sr (aE 2 J (bA (cI (aZ [.string (aN ([48])),I0] J ⟨rfl,rfl,xl⟩ ?_)))))))));have H:([48]:List Nat)=gE base m:=by subst ab;rfl
  exact⟨_,rfl,⟨_,_,rfl,(show Value.string _=Value.string _ from congrArg (fun l=>Value.string (aN l)) H),rfl⟩,ak⟩
 have ab:m≠0:=fun e=>dx (by rw [j4,e];rfl);refine aK 1 J (aA (no o) J (aH J (hJ o 0 J) (aG (aT J (bB (aL (aV 1 J (dP [no base] (JU hbl hbu) J ?_))))))));rintro _ v5 ⟨L,p9,_,rfl,r7,e6⟩;refine dO ?_;have W:=ak.trans e6;obtain⟨_,_,rfl,rfl,rfl⟩:=r7;refine mv 1 J (aA (no L) J (aA (t9 (base^L:Nat)) J (aE 2 J (aV 3 J (aA (.agg #[no base,no L,t9 (base^L:Nat),S0,S0]) J (nQ J J (vs:= [no base,no L,t9 (base^L:Nat),S0,S0]) J fun f _ nb=>?_))))));have ba:=Nat.le_of_eq nb.at_;have E:w.heap.size≤v5.heap.size:=W.size;have ai:=nb.bk;have bu:w.heap.size≤f:=by rw [←nb.at_];exact W.size
 have ah:=nb.ext;clear nb;have X:=W.trans ah;refine aE 1 J (aD (aD ?_));by_cases em:o>12
 ·refine aK 1 J (aA (no o) J (aH J (gB o 12 J) (aG (bC J (aD ?_)))));have dw:1≤L:=by refine Nat.pos_of_ne_zero (fun e=>?_);have:=p9.gt;rw [e,eR,Nat.pow_one] at this;omega
  have dr:2≤base^L:=a8 hbl (a8 (Nat.le_of_eq (Nat.pow_one base).symm) (fZ i9 dw));have bp:=p9.le;refine aK 1 J (iF J J (k:=1) (e:=43) [t9 (base^L:Nat)] ye fun ee dt nb=>?_);have cm:=nb.bk;have am:=nb.ext;clear nb;have aj:=X.trans am;refine aE 1 J (bO ?_);refine dC (T:=a6×Nat×Option a7×Nat×Nat×Option a7×Nat) (fun⟨wr,j,QA,qn,qc,PA,pc⟩=> [(0,up A4 o c4),(1,no base),(6,no L),(7,t9 (base^L:Nat)),(8,i5 f 0),(9,up QA qn qc)]) (fun⟨wr,j,QA,qn,qc,PA,pc⟩=>wr) (fun⟨wr,j,QA,qn,qc,PA,pc⟩=>(Ext w wr)∧(j=0∨(base^L)^2^(j-1)≤m)∧(qn=(wd ((base^L)^2^j)).length)∧(qn≤8388608)∧(Own wr 0 43 1 QA qn qc ((wd ((base^L)^2^j)).map bF))∧(Bk wr f 130 [no base,no L,t9 (base^L:Nat),up PA j pc,S0])∧(Pw wr v5.heap.size PA j pc (base^L))∧(v5.heap.size≤wr.heap.size)∧(Own wr 0 43 1 A4 o c4 ((wd m).map bF))) (fun⟨wr,j,QA,qn,qc,PA,pc⟩=>64-j) (⟨dt,0,(some ⟨ee,0,none⟩),1,1,none,0⟩:a6×Nat×Option a7×Nat×Nat×Option a7×Nat) ⟨aj,(cJ J),(by rw [Nat.pow_zero,Nat.pow_one];exact vP bp i9),yd,(by rw [Nat.pow_zero,Nat.pow_one];exact (a3l cm bp i9)),(ai.ext am),(Pw.nil _ _ _),((a8 ah.size am.size)),((o4.ext (e6.t (ah.t am)))).mono (bX _)⟩ J (aP J) ?_;rintro⟨wr,j,QA,qn,qc,PA,pc⟩ ⟨ak,dh,dz,dl,hq,b_g,bo,Z,ag⟩;refine aD (aD ?_);have eg:j≤29:=by rcases dh with h | h;(· omega);(· have:=NU (LI dr h av) i9;omega)
  by_cases ar:(base^L)^2^j≤m
  ·have du:(wd ((base^L)^2^j*(base^L)^2^j)).length≤8388608:=a0c (a8 (iP ar) av);refine aK 2 J (bI [up QA qn qc,up A4 o c4] ak (AE hq.wi ag.wi) J ?_);rintro _ _ rfl F W;refine aH J (a2U ar) (aG (bC J (bB (aL (bO (aV 2 J (pf f 0 J (pf f 3 J (dG (b_g.ext F) J (mv 1 J (iF J J (k:=1) (e:=22) [up QA qn qc] ye fun _ _ nb=>?_)))))))))));have bi:=nb.bk;have G:=nb.ext;clear nb;have X:=W.trans G;refine SI J J J (bo.ext (F.t G)) (a8 Z ((a8 F.size G.size))) bi dz dl (hq.ext (F.t G)) i9 yd fun ch cj _ aq I ⟨_,V⟩=>?_;have aj:=I.ext X (fun p hp=>a8 E (V.block p hp).1);refine pf f 0 J (pf f 3 J ?_);have M:=((b_g.ext (F.t G)).updO I (EF V (b_g.ext (F.t G)) yd));refine g9 M [no base,no L,t9 (base^L:Nat),up ch (j+1) cj,S0] J fun _ aa U _=>?_;have bd:=U.ext aj bu;refine aG (aD (aD ?_));by_cases ei:2*qn>o+2
   ·refine aK 1 J (aA (no qn) J (bD J (qP 2 qn J) (mv 1 J (aA (no o) J (bD J (cK o 2 J) (aH J (gB (2*qn) (o+2) J) (aG (bC J (d9 (cY (BQ (d7 ?_))))))))))));refine d8 (aL (aV 3 J (pf f 0 J (pf f 3 J (dG aa J (aA (no ((j+1):Nat)) J (eC J J J (((j+1:Nat):Int)-1) (fS J) (dP [i5 f 0,up A4 o c4,no (((j+1:Nat):Int)-1),I0] (AD (j+1) (lb:=v5.heap.size) (bs:= []) J (hS.ext bd) (dA (wI w _ (hS 0 yd)) E) hbl hbu aa (Own.nil _ _ _ _) ba (a8 Z ((a8 (a8 (a8 F.size G.size) I.size) U.by_.size))) (((ag.ext (F.t G)).updOT V yd I).updT M yd U).wi i9 J p9 yd Y ((aq.updT M U yd yd).mono (bX _)) (aU _) i9) J ?_))))))));rintro _ _ ⟨rfl,_,_,_,cp,cv,bw,_⟩;refine dO ?_;have az:=bw.ext bd E;refine aG (aV 1 J (pf f 0 J (pf f 4 J (dG cp J (zG J J cv (aE 2 J (bA (aZ [.string (aN ([]++eT (fG (db base m) 0))),I0] J ⟨rfl,rfl,xl⟩ ?_))))))));have H:([]++eT (fG (db base m) 0):List Nat)=gE base m:=by rw [List.nil_append,xI (bX _),gE,if_neg ab]
    exact⟨_,rfl,⟨_,_,rfl,(show Value.string _=Value.string _ from congrArg (fun l=>Value.string (aN l)) H),rfl⟩,az⟩
   refine aK 1 J (aA (no qn) J (bD J (qP 2 qn J) (mv 1 J (aA (no o) J (bD J (cK o 2 J) (aH J (i7 (2*qn) (o+2) J) (aG (aT J (bB (aL (aK 1 J ?_)))))))))));refine bI [up QA qn qc] bd (DW (bX _) (((hq.ext (F.t G)).updOT V yd I).updT M yd U).wi) J ?_;rintro _ dm ⟨dy,df,ef,rfl,bj,de⟩ ao az;refine bS 1 J (bT (cP (⟨dm,j+1,dy,df,ef,ch,cj⟩:a6×Nat×Option a7×Nat×Nat×Option a7×Nat) ⟨az,(cN ar),(by rw [bj,LF]),(by rw [bj];exact du),(by rw [←LF];exact de),(aa.ext ao),((aq.updT M U yd yd).ext ao),(a8 Z ((a8 (a8 (a8 (a8 F.size G.size) I.size) U.by_.size) ao.size))),((((ag.ext (F.t G)).updOT V yd I).updT M yd U).ext ao)⟩ (show 64-(j+1)<64-j by omega) J (aP J)))
  refine aK 2 J (bI [up QA qn qc,up A4 o c4] ak (AE hq.wi ag.wi) J ?_);rintro _ _ rfl ae W;refine aH J (a2V i9) (aG (aT J (d9 (cY (d7 (d8 (aL (aV 3 J (pf f 0 J (pf f 3 J (dG (b_g.ext ae) J (aA (no j) J ?_))))))))))));refine eC J J J (((j:Nat):Int)-1) (fS J) (dP [i5 f 0,up A4 o c4,no (((j:Nat):Int)-1),I0] (AD (j) (lb:=v5.heap.size) (bs:= []) J (hS.ext W) (dA (wI w _ (hS 0 yd)) E) hbl hbu (b_g.ext ae) (Own.nil _ _ _ _) ba (a8 Z (ae.size)) (ag.ext ae).wi i9 J p9 yd Y ((bo.ext ae).mono (bX _)) (aU _) i9) J ?_);rintro _ _ ⟨rfl,_,_,_,ci,bm,cz,_⟩;refine dO ?_;have X:=cz.ext W E;refine aG (aV 1 J (pf f 0 J (pf f 4 J (dG ci J (zG J J bm (aE 2 J (bA (aZ [.string (aN ([]++eT (fG (db base m) 0))),I0] J ⟨rfl,rfl,xl⟩ ?_))))))));have H:([]++eT (fG (db base m) 0):List Nat)=gE base m:=by rw [List.nil_append,xI (bX _),gE,if_neg ab]
  exact⟨_,rfl,⟨_,_,rfl,(show Value.string _=Value.string _ from congrArg (fun l=>Value.string (aN l)) H),rfl⟩,X⟩
 refine aK 1 J (aA (no o) J (aH J (i7 o 12 J) (aG (aT J (bB (aL (aV 3 J (pf f 0 J (pf f 3 J (dG ai J (aA (no 0) J ?_)))))))))));refine eC J J J (((0:Nat):Int)-1) (fS J) (dP [i5 f 0,up A4 o c4,no (((0:Nat):Int)-1),I0] (AD 0 (lb:=v5.heap.size) (bs:= []) J (hS.ext X) (dA (wI w _ (hS 0 yd)) E) hbl hbu ai (Own.nil _ _ _ _) ba (ah.size) (o4.ext (e6.t ah)).wi i9 J p9 yd Y (Pw.nil _ _ _) (aU _) i9) J ?_);rintro _ _ ⟨rfl,_,_,_,br,bh,bg,_⟩;refine dO ?_;have aj:=bg.ext X E;refine aG (aV 1 J (pf f 0 J (pf f 4 J (dG br J (zG J J bh (aE 2 J (bA (aZ [.string (aN ([]++eT (fG (db base m) 0))),I0] J ⟨rfl,rfl,xl⟩ ?_))))))));have H:([]++eT (fG (db base m) 0):List Nat)=gE base m:=by rw [List.nil_append,xI (bX _),gE,if_neg ab]
 exact⟨_,rfl,⟨_,_,rfl,(show Value.string _=Value.string _ from congrArg (fun l=>Value.string (aN l)) H),rfl⟩,aj⟩
theorem VX (ht:P.underlying t=some .string)(hb:∀b,b∈bs→b<256)(hi:i<bs.length):(Instr.index t (.string (aN bs)) (no (i:Int))).run P w= .ok (.int .u8 ((bs.getD i 0:Nat):Int)) w:=by
 have hs:i<(aN bs).size:=by rw [eJ];exact hi
 rw [run_index_string w t _ _ _ ht,dif_pos ⟨by omega,by omega⟩];have e:=xA hb hi hs;simp only [jB];rw [e]
theorem fF {Q:Exit→Act→a6→Prop}{l:Fr}{pos:String}{x y:cR}(hw:dD ops l gd=some true)(hx:cB l x=some (.string (aN bs)))(hy:cB l y=some (no (i:Int)))(ht:P.underlying t=some .string)(hb:∀b,b∈bs→b<256)(h:wl P ops Q n rest ((d,.int .u8 ((bs.getD i 0:Nat):Int))::l) w)(hi:i<bs.length:=by omega)(hn:d<n:=by decide):wl P ops Q n (⟨some d,.index t x y,ty,pos,af,gd⟩::rest) l w:=by
 refine gO hw hn (fun a' f=>?_) h;have e:(Instr.index t (a'.eval x) (a'.eval y)).run P w= .ok (.int .u8 ((bs.getD i 0:Nat):Int)) w:=by rw [f.ev hx,f.ev hy];exact VX ht hb hi
 show ((Instr.index t (a'.eval x) (a'.eval y)>>=fun r=>pure (iE r):Sem Next)).run P w=_;rw [cV,e];rfl
theorem IQ (hb:2≤b)(hb2:b≤36):∀c,c∈gE b m→c<256:=by
 intro c hc;unfold gE at hc;split at hc
 ·rw [rB] at hc;omega
 unfold eT at hc;obtain⟨d,f,rfl⟩:=m4.1 hc;have h1:=lQ hb m d (List.mem_reverse.1 f);have:=JI (d:=d) i9;omega
theorem VT (hS:Signs w)(hx:Wi w A an ac m)(hal:an≤4194304):aQ aM 111 #[up A an ac] w (Gv w (Is (.string (aN (gE 10 m))))):=by
 refine bU Tryz.func111 11 J (sr (aE 1 J (aV 1 J (bI [up A an ac,no 10] bN (VL (base:=10) (hS.ext bN) hx i9 yd yd) J ?_))));rintro _ _ ⟨_,_,rfl,rfl,rfl⟩ _ f;refine mv 1 J (aA (.string (aN (gE 10 m))) J (aA (no 0) J (aE 2 J (sr (aE 2 J (bA (aZ [.string (aN (gE 10 m))] J ⟨rfl,xl⟩ ?_)))))));exact⟨_,rfl,rfl,f⟩
theorem xC (hbs:∀b,b∈bs→b<256)(hlen:bs.length≤17179869184)(hg:fH 10 bs):aQ aM 82 #[.string (aN bs)] w (Gv w (T2 (WR w.heap.size (cZ 10 (bs.map dv))) (Is (no 0)))):=by
 refine bU Tryz.func82 8 J (sr (aE 2 J (aV 1 J (bI [.string (aN bs),no 10] bN (VM (Ext.refl w).size (base:=10) yd yd hbs hlen hg) J ?_))));rintro _ _ ⟨_,_,rfl,⟨E,o,h,rfl,F,G⟩,rfl⟩ _ f;refine aA (up E o h) J (aA (no 0) J (aE 2 J (bA (aZ [up E o h,I0] J ⟨rfl,rfl,xl⟩ ?_))));exact⟨_,rfl,⟨_,_,rfl,⟨_,_,_,rfl,F,G⟩,rfl⟩,f⟩
theorem xD (hbs:∀b,b∈bs→b<256)(hlen:bs.length≤17179869184)(hg:¬fH 10 bs):aQ aM 82 #[.string (aN bs)] w (Gv w (T2 (Is (up none 0 0)) (Is (no 7)))):=by
 refine bU Tryz.func82 8 J (sr (aE 2 J (aV 1 J (bI [.string (aN bs),no 10] bN (VN (base:=10) yd yd hbs hlen hg) J ?_))));rintro _ _ ⟨_,_,rfl,rfl,rfl⟩ _ f;refine aA (up none 0 0) J (aA (no 7) J (aE 2 J (bA (aZ [S0,no 7] J ⟨rfl,rfl,xl⟩ ?_))));exact⟨_,rfl,⟨_,_,rfl,rfl,rfl⟩,f⟩
end
section
theorem P6 (h:d<36):dv (sgn d)=d:=by
 unfold dv sgn;by_cases h1:d<10
 ·rw [if_pos h1,if_pos i9];omega
 rw [if_neg h1,if_neg i9,if_pos i9];omega
end
section
open Go.RowKit
theorem zS {a b:List Nat}(h:a=b):sZ .eql a b=some true:=by simp [sZ,h]
theorem uU {a b:List Nat}(h:a≠b):sZ .eql a b=some false:=by simp [sZ,h]
theorem a3U {A B:Int}(ha:A=(a:Int))(hb:B=(b:Int))(h:b≤a)(h2:a≤255):eY .sub .u8 A B=some ((a-b:Nat):Int):=by
 subst ha hb;simp only [eY,f7];rw [show (a:Int)-(b:Int)=((a-b:Nat):Int) by omega,IntWalk.u8_in _ ⟨by omega,by omega⟩]
theorem qO (h:∀c,c∈bs→dv c<base)(hbl:2≤base:=by decide)(hbu:base≤36:=by decide):(wd (cZ base (bs.map dv))).length≤bs.length:=by
 have:=xX (b:=base) hbu (FX h);rwa [List.length_map] at this
theorem zP (h:i<bs.length):bs.take (i+1)=bs.take i++ [bs.getD i 0]:=by
 rw [List.take_add_one,bL,cT h];rfl
end
end Go.Proofs.YtkkabncicmhjfaaGreatDoor
