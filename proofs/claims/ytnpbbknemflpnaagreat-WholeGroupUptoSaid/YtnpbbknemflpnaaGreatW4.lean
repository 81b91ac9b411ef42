/- Parts Ir, Il, Lin, Im, Rel, Bof, Det, St3, St4, St5, Hl, Hfa, Hfb, Hfc, Hfd, Sxt, Lda, Ld1, Ld2, Ldb, joined. -/
import Derived.Test.YtnpbbknemflpnaaGreatW3
import Derived.RangeFuncNested
import Derived.RangeFuncLeaves
import Derived.OrdersIn
import Derived.TacticsIn

open Go renaming Addr → a6, Calls → aR, Code → fX, Edge → eR, Exit → cE, LetsOut → fW, Oper → aP, Operand → cA, Program → bP, TypeId → aO, Value → aF, World → a0
open Array renaming getD_eq_getD_getElem? → kZ, getElem?_eq_some_iff → jW, getElem?_replicate → vH, replicate → kY
open Bool renaming and_eq_true → dU, not_eq_true' → vG
open Go.Builtin renaming append_ → lY
open Go.Deferred renaming ofValue → vF
open Go.Exit renaming inBlock → lW
open Go.Instr renaming alloc → vE, makeSlice → lV
open Int renaming emod_nonneg → oB
open List renaming all_eq_true → eZ, append_nil → sF, contains_iff_mem → j8, countP_le_length → uZ, getD_eq_getElem?_getD → bO, getElem?_drop → oA, getElem?_eq_getElem → d8, getElem?_eq_some_iff → fF, getElem?_take → iN, length_drop → kX, length_take → dH, mem_range → gC, range → d7
open Nat renaming add_mul → dS, add_zero → eA, le_of_not_lt → kW, le_refl → aI, le_trans → a7, lt_of_lt_of_le → cJ, lt_or_ge → eB, mul_le_mul → fV, mul_le_mul_right → dX, sub_zero → o6, succ_mul → gO, zero_add → fE, zero_le → bX
open Ne renaming symm → iB
open Go.Next renaming value → iA
open Go.Oper renaming upon → jR, wp → jQ
open Option.some renaming inj → iL
open Or renaming inl → bE, inr → bK
open Go.Region renaming ready → lP, wanted → pG
open Go.Result renaming andThen_ok → eD
open Go.Sem renaming run_bind → c8, run_pure → fO
open Go.Proofs.Tryz renaming prog → aJ
open Go.Value renaming pointer → rW
namespace Go.Proofs.YtnpbbknemflpnaaGreat
set_option maxHeartbeats 8000000
set_option maxRecDepth 20000
variable {A A' Aa Ak Ak1 Ak2 Ak3 Ak4 Ap LA RA VA:Option a6}{B K N a b b_k b_k1 b_k2 b_k3 b_k4 base bytes c cap cap' capa cc ck ck1 ck2 ck3 ck4 d g gm gr hi i id j k l lb lbr lp m n na nk nk1 nk2 nk3 nk4 r rc rcap s vc:Nat}{P:bP}{R:Bool×Nat×Mx}{T T' e t t' ty:aO}{V X Y Z:Mx}{acc:Fr}{af:Array eR}{args news us vs:List aF}{cs:Array aF}{ds is ms ps:List Nat}{dss:List (List Nat)}{f:FuncId}{fn:Func}{listed:Array Bool}{o:aP}{ol rest:List aP}{ops:Array aP}{p x x1 x2 x3 x4 z:Int}{pos:String}{rs xs ys zs:List Int}{sk1 sk2 sk3 sk4:Bool}{ts:Array aO}{u v:aF}{w w' w1:a0}{y:cA}
section
open Go.RowKit
structure Wd (F:Fence)(m:Nat)(P:bP):Prop where
 fn:∀f,F.fn f
 dep:F.depth=none
 call:∀f args w R,aR P f args w R→CallsIn F (m-1) P f args w R
 row:∀s args w R,Rows P s args w R→RowsIn F (m-1) P s args w R
theorem Wd.wide (m:Nat)(P:bP):Wd Fence.wide m P:=⟨fun _=>trivial,rfl,fun _ _ _ _ h=>callsIn_wide.2 h,fun _ _ _ _ h c cs _=>by
 obtain⟨v,w',H,o⟩:=h c cs
 exact⟨v,w',H,stepsIn_wide.2 o⟩⟩
theorem Wd.round (l m:Nat)(P:bP):Wd (Fence.wide.inRound l) m P:=⟨fun _=>trivial,rfl,fun _ _ _ _ h=>CallsIn.inRound l (callsIn_wide.2 h),fun s args w R h=>(Wd.wide m P).row s args w R h⟩
def kO (o:aP):Bool:=match o.op with | .defer _=>false | _=>true
theorem K7 (h:kO o=true):∀c,o.op≠ .defer c:=fun c e=>by unfold kO at h;rw [e] at h;cases h
section
variable {F:Fence}{m:Nat}{P:bP}{ops:Array aP}{Q Q':cE→Act→a0→Prop}
theorem CK (hW:Wd F m P){a:Act}{K K':Act→a0→Prop}(hnd:kO o=true)(hlo:¬fW Q)(hp:∀c a w,Q (.panic c) a w→Q' (.panic c) a w)(hK:∀a w,K a w→K' a w)(h:o.wp P a w K Q∨(o.asks P a w∧fW Q)):o.wpIn F m P a w K' Q':=by
 rcases h with h | h
 ·refine⟨fun _ _=>hW.fn _,?_⟩
  rw [Oper.semAt_eq _ _ _ (K7 hnd)]
  unfold jQ at h
  generalize (execOp a.eval o).run P w=r at h
  cases r with
  | ok x w'=>
   cases x with
   | value v=>exact hK _ _ h
   | skip=>exact hK _ _ h
   | defer d=>exact hK _ _ h
   | enter f args=>
    refine⟨fun H=>(by rw [hW.dep] at H;cases H),(hW.call _ _ _ _ h).mono fun e w'' I=>?_⟩
    cases e with
    | returned v=>exact hK _ _ I
    | panicked c=>exact hp _ _ _ I
    | outgrown=>exact absurd I hlo
   | row s args=>exact⟨fun H=>(by rw [hW.dep] at H;cases H),(hW.row _ _ _ _ h).mono fun v w'' I=>hK _ _ I⟩
   | _=>exact h.elim
  | _ x w'=>
   cases x with
   | panic v=>exact hp _ _ _ h
   | _=>exact h.elim
 ·exact absurd h.2 hlo
theorem qK (hW:Wd F m P)(hlo:¬fW Q)(hp:∀c a w,Q (.panic c) a w→Q' (.panic c) a w)(rest:List aP)(hq:∀a w,Q .normal a w→wpListIn F m P ops Q' rest a w):∀(pre:List aP) (a:Act) (w:a0),pre.all kO=true→wpList P ops Q pre a w→wpListIn F m P ops Q' (pre++rest) a w
 | [],a,w,_,h=>hq a w h
 | o::pre,a,w,hn,h=>by
  simp only [List.all_cons,dU] at hn
  unfold wpList at h
  show wpListIn F m P ops Q' (o::(pre++rest)) a w
  unfold wpListIn
  split
  ·next hw=>
   rw [if_pos hw] at h
   exact CK hW hn.1 hlo hp (fun a w h=>qK hW hlo hp rest hq pre a w hn.2 h) h
  ·next hw=>
   rw [if_neg hw] at h
   exact⟨fun _ _=>hW.fn _,qK hW hlo hp rest hq pre _ w hn.2 h⟩
theorem uD (hW:Wd F m P)(hlo:¬fW Q){md:Region.Mode}(hnd:∀(i:Nat) (o:aP),ops[i]?=some o→kO o=true):∀(fuel:Nat) (listed:Array Bool) (a:Act) (w:a0),wpAny P md ops Q fuel listed a w→wpAnyIn F m P md ops Q fuel listed a w
 | 0,_,_,_,h=>h
 | fuel+1,listed,a,w,h=>by
  refine⟨h.1,fun i hi=>?_⟩
  have h2:=h.2 i hi
  unfold wpOp at h2
  unfold wpOpIn
  cases ho:ops[i]? with
  | none=>simp only [ho] at h2⊢;exact uD hW hlo hnd fuel _ _ _ h2
  | some o=>
   simp only [ho] at h2⊢
   split
   ·next hw=>
    rw [if_pos hw] at h2
    exact CK hW (hnd i o ho) hlo (fun _ _ _ h=>h) (fun a w h=>uD hW hlo hnd fuel _ a w h) h2
   ·next hw=>
    rw [if_neg hw] at h2
    exact⟨fun _ _=>hW.fn _,uD hW hlo hnd fuel _ _ w h2⟩
end
theorem K5 {Q:cE→Act→a0→Prop}(h:¬fW Q):¬fW (NP Q):=fun⟨a,w,o⟩=>h ⟨a,w,o⟩
section
variable {F:Fence}{m:Nat}{P:bP}{Q:cE→Act→a0→Prop}{n:Nat}{l:Fr}{w:a0}{ol:List aP}
def ci (F:Fence)(m:Nat)(P:bP)(Q:cE→Act→a0→Prop)(n:Nat)(c:fX)(l:Fr)(w:a0):Prop:=∀a,Rp n l a→c.wpIn F m P Q a w
theorem EZ {x y:fX}(h:ci F m P (Exit.then (fun a w=>y.wpIn F m P Q a w) Q) n x l w):ci F m P Q n (.seq x y) l w:=fun a o=>wpIn_seq (h a o)
theorem F2 {c:fX}(h:ci F m P (lW i Q) n c l w):ci F m P Q n (.block i c) l w:=fun a o=>wpIn_block (h a o)
theorem EC {y:fX}(h:ci F m P Q n y l w):eo (Exit.then (fun a w=>y.wpIn F m P Q a w) Q) .normal n l w:=h
theorem u6 (hW:Wd F m P)(hlo:¬fW Q)(hnd:ol.all kO=true)(h:wl P ol.toArray Q n ol l w):ci F m P Q n (.region id ol.toArray false) l w:=fun a o=>
 wpIn_region_lit (by have:=qK hW hlo (fun _ _ _ h=>h) [] (fun a w h=>h) ol a w hnd (h a o);rwa [sF] at this)
theorem oG {K:Act→a0→Prop}(h:¬fW Q):¬fW (Exit.then K Q):=fun⟨a,w,o⟩=>h ⟨a,w,o⟩
theorem yV (h:¬fW Q):¬fW (lW i Q):=fun⟨a,w,o⟩=>h ⟨a,w,o⟩
def nA (m:Nat)(P:bP)(ops:Array aP)(Q:cE→Act→a0→Prop)(n:Nat)(rest:List aP)(l:Fr)(w:a0):Prop:=∀a,Rp n l a→wpListIn Fence.wide m P ops Q rest a w
theorem PS (m:Nat)(h:nA m P ol.toArray Q n ol l w):cw P Q n (.region id ol.toArray false) l w:=fun a o=>wpIn_wide.1 (wpIn_region_lit (h a o))
theorem GX (pre rest:List aP)(hlo:¬fW Q)(hnd:pre.all kO=true)(h:wl P ops (Exit.then (fun a w=>wpListIn Fence.wide m P ops Q rest a w) Q) n pre l w):nA m P ops Q n (pre++rest) l w:=fun a o=>
 qK (Q:=Exit.then (fun a w=>wpListIn Fence.wide m P ops Q rest a w) Q) (Q':=Q) (Wd.wide m P) (oG hlo) (fun _ _ _ h=>h) rest (fun _ _ h=>h) pre a w hnd (h a o)
theorem P1 (h:nA m P ops Q n rest l w):eo (Exit.then (fun a w=>wpListIn Fence.wide m P ops Q rest a w) Q) .normal n l w:=h
theorem vQ (hlo:¬fW Q)(hnd:rest.all kO=true)(h:wl P ops Q n rest l w):nA m P ops Q n rest l w:=fun a o=>by
 have:=qK (Wd.wide m P) hlo (fun _ _ _ h=>h) [] (fun a w h=>h) rest a w hnd (h a o)
 rwa [sF] at this
theorem GW {x:cA}{xs:Array cA}(vs:List aF){R:Ending→a0→Prop}(hx:bT l x=some (.func (.yield lp) #[] #[]))(hxs:xs.toList.map (bT l)=vs.map some)(hn:d<n)(hy:YieldAt Fence.wide (m-1) P lp vs.toArray w R)(h:∀e w',R e w'→uJ (fun v=>nA m P ops Q n rest ((d,v)::l) w') e):nA m P ops Q n (⟨some d,.call {callee:= .value x,args:=xs,argTypes:=ts},ty,pos,af,none⟩::rest) l w:=fun a o=>by
 obtain⟨fn,tmps,assign,body,hr,hR⟩:=hy
 unfold wpListIn
 rw [if_pos (sN (l:=l) (ops:=ops) G o)]
 refine⟨fun _ _=>trivial,?_⟩
 have U:xs.map a.eval=vs.toArray:=by
  apply Array.ext'
  rw [Array.toList_map]
  exact xE o _ _ hxs
 have e2:(Oper.semAt Fence.wide.round a.eval ⟨some d,.call {callee:= .value x,args:=xs,argTypes:=ts},ty,pos,af,none⟩).run P w= .ok (.round lp fn tmps assign body) w:=by
  rw [Oper.semAt_eq _ _ _ (fun c e=>by cases e)]
  unfold execOp
  simp only [resolve,o.ev hx,U,vF,c8,fO,eD,invoke]
  simpa using hr
 rw [e2]
 refine⟨fun I=>(by cases I),hR.mono fun e w' J=>?_⟩
 have H:=h e w' J
 cases e with
 | returned v=>exact H _ (o.put hn v)
 | panicked c=>exact H.elim
 | outgrown=>exact H.elim
end
structure Nc (X Y:a0):Prop where
 ex:∃row:Option Nat,X.grownBy Y row∧∀q,row=some q→∃o,X.heap[q]?=some o∧o.isCells=false
section
variable {X Y:a0}
theorem Nc.heap (h:Nc X Y){z:Nat×Nat}(hb:X.heap[g]?=some (.cells cs t z)):Y.heap[g]?=some (.cells cs t z):=by
 obtain⟨row,I,U⟩:=h.ex
 refine (I.block g (jW.1 hb).1 (fun e=>?_)).trans hb
 obtain⟨o,H,J⟩:=U g e.symm
 rw [hb] at H;cases H;cases J
theorem Bk.nc (h:Bk X g t vs)(n:Nc X Y):Bk Y g t vs:=n.heap h
theorem Own.nc (h:Own X b t s A n cap vs)(c:Nc X Y):Own Y b t s A n cap vs:=by
 rcases h with h | ⟨g,cs,H,hb,o,r⟩
 ·exact bE h
 ·exact bK ⟨g,cs,H,hb,o.nc c,r⟩
theorem Zr.nc {s:Bool}(h:Zr X b s A n cap z)(c:Nc X Y):Zr Y b s A n cap z:=⟨h.sgn,h.len,h.own.nc c⟩
theorem Lz.nc (h:Lz none K b X lb A n cap zs)(c:Nc X Y):Lz none K b Y lb A n cap zs:=by
 obtain⟨es,H,J,I,o⟩:=h
 exact⟨es,H.nc c,J,I,fun i hi=>⟨(o i hi).1,bE ((o i hi).2.zr.nc c)⟩⟩
theorem Rcs.nc {ra:Nat→Option a6}{rc:Nat→Nat}(h:Rcs K lb n m ra rc X Z)(c:Nc X Y):Rcs K lb n m ra rc Y Z:=⟨fun r hr=>by obtain⟨zs,o,H⟩:=h.row r hr;exact⟨zs,o.nc c,H⟩,h.dis⟩
theorem Nc.size (h:Nc X Y):X.heap.size≤Y.heap.size:=by obtain⟨row,o,_⟩:=h.ex;exact o.size
theorem Nc.put {o:Obj}(o':Obj)(hl:X.heap[l]?=some o)(ho:o.isCells=false):Nc X (X.putObj l o'):=⟨some l,grownBy_putObj' X l o',fun q e=>by cases e;exact⟨o,hl,ho⟩⟩
end
theorem Zl.cut (h:Zl w A n cap zs ms){lo:Nat}(h1:lo≤hi)(h2:hi≤n):Zl w (if cap=lo then A else A.map (·.add (lo*2))) (hi-lo) (cap-lo) ((zs.take hi).drop lo) ((ms.take hi).drop lo):=by
 have J:=h.le
 refine⟨by rw [kX,dH,h.len];omega,by rw [kX,dH,h.mlen];omega,by omega,a7 (Nat.sub_le _ _) h.max,fun i hi'=>?_⟩
 obtain⟨a,s,B,c,H,h3,I,U⟩:=h.get (lo+i) (by omega)
 have o:∀{α:Type}(l:List α) (d:α),((l.take hi).drop lo).getD i d=l.getD (lo+i) d:=fun l d=>by
  simp only [bO,oA]
  rw [iN,if_pos (by omega)]
 rw [o,o,if_neg (by omega),H]
 refine⟨a.add (lo*2),s,B,c,rfl,?_,?_,U⟩
 ·rw [pB,←dS];exact h3
 ·rw [pB,←Nat.add_assoc,←dS];exact I
theorem ZF.cut (h:ZF w A n cap K zs){lo:Nat}(h1:lo≤hi)(h2:hi≤n):ZF w (if cap=lo then A else A.map (·.add (lo*2))) (hi-lo) (cap-lo) K ((zs.take hi).drop lo):=by
 obtain⟨ms,o,I⟩:=h
 refine⟨_,o.cut h1 h2,fun i=>?_⟩
 by_cases hi':i<hi-lo
 ·have H:((ms.take hi).drop lo).getD i 0=ms.getD (lo+i) 0:=by
   simp only [bO,oA]
   rw [iN,if_pos (by omega)]
  rw [H];exact I _
 ·rw [bO,List.getElem?_eq_none (by rw [kX,dH,o.mlen];omega)];exact bX _
theorem BB (i c:Nat):(i+1)*c-i*c=c:=by rw [gO];omega
def wK (zs:List Int)(c i:Nat):List Int:=(zs.take ((i+1)*c)).drop (i*c)
theorem ZF.row (h:ZF w A (r*c) cap K zs)(hi:i<r):ZF w (if cap=i*c then A else A.map (·.add (i*c*2))) c (cap-i*c) K (wK zs c i):=by
 have o:=h.cut (lo:=i*c) (hi:=(i+1)*c) (dX c (by omega)) (dX c (by omega))
 rw [BB] at o
 exact o
theorem JL (h:En r c X zs)(hi:i<r)(hj:j<c):(wK zs c i).getD j 0=X i j:=by
 rw [←h i j hi hj]
 unfold wK
 simp only [bO,oA]
 rw [iN,if_pos (by rw [gO];omega)]
theorem GY {Q:cE→Act→a0→Prop}{l:Fr}(k:Nat)(hlo:¬fW Q)(hnd:(ol.take k).all kO=true)(h:wl P ops (Exit.then (fun a w=>wpListIn Fence.wide m P ops Q (ol.drop k) a w) Q) n (ol.take k) l w):nA m P ops Q n ol l w:=by
 have:=GX (m:=m) (ol.take k) (ol.drop k) hlo hnd h
 rwa [List.take_append_drop] at this
theorem NG (J:Nat→a0→Prop)(hJm:∀k W,J k W→Bk W gm 24 [AI r,AI c,By A (r*c) cap]∧ZF W A (r*c) cap K xs)(hr:r≤64)(hc:c≤64)(hKB:K≤17179869184)(hX:En r c X xs)(hY:∀(k:Nat) W0 W1 LA lc zs,k<r→J k W0→Ext W0 W1→Lz none K 0 W1 W0.heap.size LA c lc zs→(∀j,j<c→zs.getD j 0=X k j)→YieldAt Fence.wide 8 aJ lp #[AI (k:Int),By LA c lc] W1 (fun e W'=>e= .returned (BY)∧J (k+1) W'))(h0:J 0 w):aR aJ 64 #[.func (.yield lp) #[] #[],a9 gm 0] w (fun e w'=>(∃v,e= .returned v)∧J r w'):=by
 obtain⟨o,_⟩:=hJm 0 w h0
 have ar:=iJ hr hc
 refine bQ Tryz.func64 G (n:=27) G (bq G) (args:= [.func (.yield lp) #[] #[],a9 gm 0]) ?_
 have ab:=o.lt
 refine bH [(0,.func (.yield lp) #[] #[]),(1,a9 gm 0)] ⟨rfl,rfl,Ht⟩ (sr (pf gm 0 G (aK G G (aQ bV o G) (mv 1 G (aE (bB ?_))))))
 refine d6 (T:=a0×Nat) (fun⟨wr,i⟩=> [(0,.func (.yield lp) #[] #[]),(1,a9 gm 0),(4,a9 gm 0),(5,AI r),(6,AI i)]) (fun⟨wr,i⟩=>wr) (fun⟨wr,i⟩=>(True)∧(i≤r)∧(J i wr)) (fun⟨wr,i⟩=>r-i)
  (⟨w,0⟩:a0×Nat) ⟨Ht,(by omega),h0⟩ G ⟨rfl,rfl,rfl,rfl,rfl,Ht⟩ ?_
 rintro⟨wr,i⟩ ⟨_,_,hJ⟩
 refine d4 [(0,.func (.yield lp) #[] #[]),(1,a9 gm 0),(4,a9 gm 0),(5,AI r),(6,AI i)] wr G ⟨rfl,rfl,rfl,rfl,rfl,Ht⟩ ?_
 obtain⟨I,U⟩:=hJm i wr hJ
 refine aH ?_
 by_cases H:i<r
 ·refine aL (aN G G G true (dB (a:=i) (b:=r) G G) (aE (aH (bJ G (bA (aM (aH (bB (sr (mv 2 G (aE (aH ?_))))))))))))
  have az:=iJ (show i≤64 by omega) hc
  have ao:=iJ (show i+1≤64 by omega) hc
  have ak:=dX c (show i+1≤r by omega)
  have aw:i*c≤(i+1)*c:=dX c (by omega)
  obtain⟨ac,aa,ag⟩:=U
  have aj:=aa.le
  have U:ZF wr A (r*c) cap K xs:=⟨ac,aa,ag⟩
  refine PS 9 (GY 15 (fun⟨_,_,h⟩=>by obtain⟨⟨_,hv⟩,_⟩:=h;cases hv) G (mv 2 G (pf gm 2 G (aK G G (aQ cD I G) (mv 1 G (pf gm 1 G (aK G G (aQ bV I G) (bC G G G ((i*c:Nat):Int) (kE (a:=i) (b:=c) G G) (mv 1 G (bC G G G ((i+1:Nat):Int) (bW (a:=i) (b:=1) G G) (pf gm 1 G (aK G G (aQ bV I G) (bC G G G (((i+1)*c:Nat):Int) (kE (a:=i+1) (b:=c) G G) ?_)))))))))))))
  refine vM G G bM aG.size (lo:=i*c) (hi:=(i+1)*c) G G (by omega) (by omega) (v:= By (if cap=i*c then A else A.map (·.add (i*c*2))) c (cap-i*c)) (by rw [BB]) (by decide) (bR G G (vs:= [By (if cap=i*c then A else A.map (·.add (i*c*2))) c (cap-i*c),.func (.func 46) #[] #[]]) (by kernel_rfl) (by decide) (DZ (b:=0) (lb:=wr.heap.size) (bX _) (aI _) (U.row H) (by omega) hKB) ?_)
  rintro _ v1 ⟨x1,rfl,⟨LA,lc,rfl,lz⟩,e1⟩
  refine bL (aS (P1 (GW [AI i,By LA c lc] G G (by decide) (hY i wr v1 LA lc _ H hJ e1 lz (fun j hj=>JL hX H hj)) ?_)))
  rintro _ v2 ⟨rfl,ah⟩
  refine bL (vQ (fun⟨_,_,h⟩=>by obtain⟨⟨_,hv⟩,_⟩:=h;cases hv) G (pu (v:= Hs) G (aE (aY G (bA (cC (aM (aL (bC G G G ((i+1:Nat):Int) (bW (a:=i) (b:=1) G G) (mv 1 G (aS (cB (⟨v2,i+1⟩:a0×Nat) ⟨Ht,(by omega),ah⟩ (show r-(i+1)<r-i by omega) G ⟨rfl,rfl,rfl,rfl,rfl,Ht⟩))))))))))))
 ·refine aL (aN G G G false (dK (a:=i) (b:=r) G G) (aE (aH (aY G (cM (cK (cT (cL (iW [] G Ht ?_)))))))))
  exact⟨⟨_,rfl⟩,(show i=r by omega)▸hJ⟩
theorem E2 (hxa:ZF w Aa na capa K xs)(hr:r≤64)(hc:c≤64)(hna:na=r*c)(hKB:K≤17179869184):aR aJ 49 #[.agg #[AI r,AI c,By Aa na capa]] w (Gv w (fun v w'=>∃gm A cap,v= .func (.func 64) #[] #[a9 gm 0]∧w.heap.size≤gm∧Bk w' gm 24 [AI (r:Int),AI (c:Int),By A na cap]∧Lz none K 0 w' w.heap.size A na cap xs)):=by
 have bh:w.heap.size≤w.heap.size:=aI _
 have ah:=hxa
 obtain⟨msa,_,_⟩:=hxa
 refine bQ Tryz.func49 G (n:=11) G (bq G) (args:= [.agg #[AI r,AI c,By Aa na capa]]) (bH [(0,.agg #[AI r,AI c,By Aa na capa])] ⟨rfl,Ht⟩ (sr (bx [AI r,AI c,By Aa na capa] aB G G G fun g1 v2 ab _ _ J=>(mv 1 G (aE (sr (lo bS ab [AI r,AI c,By Aa na capa] G G G ?_)))))))
 obtain⟨_,aj,_,ak,_⟩:∃lb,lb≤v2.heap.size∧v2.heap.size≤lb∧w.heap.size≤lb∧g1<lb:=⟨v2.heap.size,aI _,aI _,J.size,ab.lt⟩
 refine cl (vs:= [.agg #[AI r,AI c,By Aa na capa]]) J (NH J.size aj (ah.ext J) hr hc hna hKB) G (by kernel_rfl) fun _ _ r9 e8 ae=>?_
 obtain⟨_,_,rfl,⟨_,rfl,⟨h,I,rfl,H⟩⟩,r10_1⟩:=r9
 have ar:=H.block
 obtain rfl:=r10_1
 refine mv 1 G (pu (v:= .agg #[AI r,AI c,By h na I]) G (pu (v:= AI 0) G (dM G (z:= .agg #[I0,I0,S0]) (vs:= [I0,I0,S0]) (fun _=>by kernel_rfl) G fun o _ nb=>?_)))
 have U:=nb.bk
 have aa:w.heap.size≤o:=by rw [←nb.at_];exact ae.size
 have bg:g1<o:=by rw [←nb.at_];exact (ab.ext e8).lt
 have ai:∀p:a6,h=some p→p.block≠o:=fun p hp=>by have:=(H).block p hp;have:=nb.at_;omega
 have ag:=nb.ext
 clear nb
 have aq:=ae.trans ag
 refine so bS U [AI r,AI c,By h na I] aq aa G G G G fun _ ac av ao=>(mv 1 G (aE (sr (pu (v:= .func (.func 64) #[] #[a9 o 0]) G (mv 1 G (aE (bG (bF [.func (.func 64) #[] #[a9 o 0]] G ⟨rfl,Ht⟩ ?_))))))))
 exact⟨_,rfl,⟨o,h,I,rfl,aa,ac,(((H.ext ag).updT U av ai)).mono (aI _) (bX _) ak⟩,ao⟩
theorem rE (h:m≤l)(W:a0)(hl:l<W.heap.size)(o:Obj):Below m W (W.putObj l o):=(Below.refl m W).grown (grownBy_putObj' W l o) (by omega) (fun k e=>by cases e;exact h)
section
variable {Q:cE→Act→a0→Prop}{n:Nat}{l:Fr}{w:a0}
theorem ET {g:cA}{ps:Array Tmp}{assign body:fX}{p0 p1:Nat}(hg:bT l g=some (.func (.func 64) #[] #[a9 gm 0]))(hps:ps= #[p0,p1])(hp0:p0<n)(hp1:p1<n)(hr:r≤64)(hc:c≤64)(hKB:K≤17179869184)(hX:En r c X xs)(I:Nat→Nat→a0→Prop)(hIm:∀k b W,I k b W→Bk W gm 24 [AI (r:Int),AI (c:Int),By A (r*c) cap]∧ZF W A (r*c) cap K xs)(hIx:∀k b V W,I k b V→Ext V W→I k b W)(hIb:∀k b W,I k b W→I k W.heap.size W)(hIn:∀k b V W,I k b V→Nc V W→Below w.heap.size V W→I k b W)(h0:I 0 w.heap.size w)(l2:aF→aF→Fr)(hassign:∀(lp:Nat) (v0 v1:aF) (Kp:Act→a0→Prop) (W:a0),(∀a,Rp n (l2 v0 v1) a→Kp a W)→ci (Fence.wide.inRound lp) 8 aJ (Exit.then Kp (fun _ _ _=>False)) n assign ((p1,v1)::(p0,v0)::l) W)(hbody:∀(lp k b:Nat) (W:a0) (LA:Option a6) (lc:Nat) (zs:List Int) (Q':cE→Act→a0→Prop),k<r→I k b W→b≤W.heap.size→Lz none K 0 W b LA c lc zs→(∀j,j<c→zs.getD j 0=X k j)→¬fW Q'→
   (∀a W',KeepsFrom w.heap.size W W'→I (k+1) W'.heap.size W'→Q' .normal a W')→ci (Fence.wide.inRound lp) 8 aJ Q' n body (l2 (AI (k:Int)) (By LA c lc)) W)(hdone:∀(D b:Nat) (W:a0),w.heap.size≤D→I r b W→W.heap[D]?=some (.deferred (some []))→∀a,Rp n l a→Q .normal {a with defers:= [{target:= .collected D,args:= #[]}]} W):
  cw aJ Q n (.rangeFunc g ps assign body) l w:=by
 subst hps
 intro a ha
 refine (wpIn_wide (n:=9)).1 (wpIn_rangeFunc (fun fn hfn=>?_))
 obtain⟨rec,hrec⟩:∃rec:LoopState→Option fX→Loop,rec=fun st pe=>{state:=st,pending:=pe,fn,tmps:=a.tmps,params:= #[p0,p1],assign,body,defers:=w.heap.size}:=⟨_,rfl⟩
 obtain⟨W1,hW1⟩:∃W1,(w.alloc (.deferred (some []))).alloc (.loop (rec .ready none))=W1:=⟨_,rfl⟩
 have hL1:W1.heap[w.heap.size+1]?=some (.loop (rec .ready none)):=by
  rw [←hW1];have:=World.alloc_heap_new (w.alloc (.deferred (some []))) (.loop (rec .ready none));rwa [World.size_alloc] at this
 have hK1:W1.heap[w.heap.size]?=some (.deferred (some [])):=by
  rw [←hW1];exact (Below.heap_alloc _ _ _ (by simp)).trans (World.alloc_heap_new w _)
 have hE1:Ext w W1:=by rw [←hW1];exact ((Ext.refl w).alloc _).alloc _
 refine⟨w.heap.size+1,[{target:= .collected w.heap.size,args:= #[]}],W1,{target:= .fn (.func 64) #[a9 gm 0],args:= #[.func (.yield (w.heap.size+1)) #[] #[]]},W1,64,
  #[.func (.yield (w.heap.size+1)) #[] #[],a9 gm 0],W1,?_,?_,fun _ _=>trivial,?_,fun h=>(by cases h),?_⟩
 ·rw [←hW1,hrec];exact run_enterLoop_outer _ _ _ _ _
 ·simp only [resolve,ha.ev hg]
  simp [go_sem]
 ·have:=enters_of Tryz.func64 (by kernel_rfl) G #[.func (.yield (w.heap.size+1)) #[] #[],a9 gm 0] W1
  simp [invoke,this]
 ·refine callsIn_wide.2 ((NG (w:=W1) (fun k W=>(∃b,I k b W)∧W.heap[w.heap.size+1]?=some (.loop (rec .ready none))∧W.heap[w.heap.size]?=some (.deferred (some []))) (fun k W hJ=>by obtain⟨⟨b,h⟩,_⟩:=hJ;exact hIm k b W h) hr hc hKB hX ?_ ⟨⟨_,hIx _ _ _ _ h0 hE1⟩,hL1,hK1⟩).mono ?_)
  ·intro k W0 W2 LA lc zs hk hJ e hz hent
   obtain⟨⟨b,hI⟩,hl,hd⟩:=hJ
   have hl2:=e.heap hl
   have hd2:=e.heap hd
   have hlt:w.heap.size+1<W2.heap.size:=(jW.1 hl2).1
   have hy:=run_yield (P:=aJ) (args:= #[AI (k:Int),By LA c lc]) hl2 (by rw [hrec];rfl)
   rw [hrec] at hy
   refine⟨fn,_,assign,body,hy,roundIn_of_wpIn hfn ?_⟩
   have hact:({tmps:=((#[p0,p1]:Array Tmp).zip #[AI (k:Int),By LA c lc]).foldl (fun tmps (t,a)=>tmps.setIfInBounds t a) a.tmps,defers:= []}:Act)=(a.put (some p0) (AI (k:Int))).put (some p1) (By LA c lc):=by
    simp [Act.put,ha.nod]
   rw [hact]
   refine hassign (w.heap.size+1) _ _ _ W2 (fun a1 ha1=>?_) _ ((ha.put hp0 _).put hp1 _)
   have hlk:W2.heap[w.heap.size+1]?=some (.loop (rec .ready none)):=hl2
   refine⟨_,run_beginRound hlk (by rw [hrec]),?_⟩
   have hl3:(W2.putObj (w.heap.size+1) (.loop {rec .ready none with state:= .busy})).heap[w.heap.size+1]?=some (.loop {rec .ready none with state:= .busy}):=World.putObj_heap_same hlt
   have hd3:(W2.putObj (w.heap.size+1) (.loop {rec .ready none with state:= .busy})).heap[w.heap.size]?=some (.deferred (some [])):=(World.putObj_heap_other (by omega)).trans hd2
   have hnc:Nc W2 (W2.putObj (w.heap.size+1) (.loop {rec .ready none with state:= .busy})):=Nc.put _ hl2 rfl
   refine hbody (w.heap.size+1) k W0.heap.size _ LA lc zs _ hk (hIn _ _ _ _ (hIx _ _ _ _ (hIb _ _ _ hI) e) hnc (rE (by omega) _ hlt _)) (a7 e.size hnc.size) (hz.nc hnc) hent (fun⟨_,_,h⟩=>h) (fun a3 W3 hkf hI3=>?_) _ ha1
   have hl4:=hkf.same _ _ (by omega) hl3 rfl
   have hd4:=hkf.same _ _ (aI _) hd3 rfl
   have hr4:=run_endRound (P:=aJ) none hl4
   refine⟨_,_,hr4,rfl,⟨_,hIn _ _ _ _ hI3 (Nc.put _ hl4 G) (rE (by omega) _ (jW.1 hl4).1 _)⟩,?_,(World.putObj_heap_other (by omega)).trans hd4⟩
   rw [World.putObj_heap_same (jW.1 hl4).1,hrec];rfl
  ·rintro e W2 ⟨⟨v,rfl⟩,⟨b,hI⟩,hl,hd⟩
   have hr2:=run_endLoop (P:=aJ) hl (by rw [hrec];simp)
   have hr3:(Instr.endLoop (w.heap.size+1)).run aJ W2= .ok none (W2.putObj (w.heap.size+1) (.loop {rec .ready none with state:= .exhausted})):=by
    rw [hr2,hrec]
   refine⟨none,_,hr3,?_⟩
   have:=hdone w.heap.size b _ (aI _) (hIn _ _ _ _ hI (Nc.put (.loop {rec .ready none with state:= .exhausted}) hl G) (rE (by omega) _ (jW.1 hl).1 _)) ((World.putObj_heap_other (by omega)).trans hd) a ha
   show Q .normal {a with defers:= [{target:= .collected w.heap.size,args:= #[]}]++a.defers} _
   rw [ha.nod]
   rw [hrec] at this⊢
   exact this
end
theorem B8 {c:fX}{R:Ending→a0→Prop}(hf:Tryz.prog.funcs[f]?=some fn)(hb:fn.body=some c)(hn:fn.ntmps=n)(hle:args.length≤n)(h:cw aJ (bodyPostM Fence.wide 9 aJ fn R) n c (rF args 0) w):aR aJ f args.toArray w R:=by
 refine (callsIn_wide (n:=9)).1 (callsIn_of_wp_marks hf hb Ht (wpIn_wide.2 (h _ ⟨?_,rfl,fun i v hi=>?_⟩)))
 ·simp [hn];omega
 ·obtain⟨_,H⟩:=xH args 0 i v hi
  rw [o6] at H
  have o:i<args.length:=(fF.1 H).1
  simp only [kZ]
  rw [Array.getElem?_append_left (by simpa using o)]
  simp [H]
structure DR (E:a0→a0→Prop):Prop where
 refl:∀w,E w w
 trans:∀{a b c},E a b→E b c→E a c
 drew:∀w,E w w.drew
section
variable (E:a0→a0→Prop)
def DepE (ol:List aP)(Rs:List (aF→a0→Prop))(w0 w1:a0)(k:Fr→Prop):List Nat→Fr→Prop
 | [],acc=>k acc
 | j::ds,acc=>∀v wj,eC Rs j v wj→E w0 wj→E wj w1→DepE ol Rs w0 w1 k ds (iQ (bN ol j) v acc)
def rO (w1:a0)(d:Option Tmp)(R:aF→a0→Prop):cE→Act→a0→Prop
 | .normal,a,w=>E w1 w∧R (eO a d) w∧a.defers= []
 | _,_,_=>False
def uN (P:bP)(n:Nat)(ol:List aP)(Rs:List (aF→a0→Prop))(l:Fr)(w0:a0)(i:Nat)(o:aP)(ds:List Nat):Prop:=
 ∀w1,E w0 w1→DepE E ol Rs w0 w1 (fun acc=>wl P ol.toArray (rO E w1 o.dst (eC Rs i)) n [o] acc w1) ds l
def mP (P:bP)(n:Nat)(ol:List aP)(Rs:List (aF→a0→Prop))(l:Fr)(w0:a0):List (List Nat)→Nat→Prop
 | [],_=>True
 | ds::dss,i=>(match ol[i]? with | some o=>uN E P n ol Rs l w0 i o ds | none=>True)∧mP P n ol Rs l w0 dss (i+1)
def rQ (ol:List aP)(Rs:List (aF→a0→Prop))(w0:a0)(i:Nat)(a:Act)(w:a0):Prop:=∃w1,E w0 w1∧E w1 w∧eC Rs i (eO a (bN ol i)) w1
end
section
variable {E:a0→a0→Prop}{F:Fence}{mm:Nat}{P:bP}{Q:cE→Act→a0→Prop}{n:Nat}{ol:List aP}{m:Nat}{Rs:List (aF→a0→Prop)}{l:Fr}{w0:a0}{dss rl:List (List Nat)}
theorem gB {k:Fr→Prop}(h:k acc):DepE E ol Rs w0 w1 k [] acc:=h
theorem eJ {k:Fr→Prop}{R:aF→a0→Prop}(hR:Rs[j]?=some R)(hd:bN ol j=some d)(h:∀v wj,R v wj→E w0 wj→E wj w1→DepE E ol Rs w0 w1 k ds ((d,v)::acc)):DepE E ol Rs w0 w1 k (j::ds) acc:=by
 intro v wj hr e e'
 have o:eC Rs j=R:=by unfold eC;rw [hR];rfl
 have H:iQ (bN ol j) v acc=(d,v)::acc:=by rw [hd];rfl
 rw [o] at hr
 rw [H]
 exact h v wj hr e e'
theorem gQ {R:aF→a0→Prop}(hv:look l d=some v)(hx:E w1 w)(hR:R v w):wl P ops (rO E w1 (some d) R) n [] l w:=
 aS fun a h=>⟨hx,by show R (a.tmps.getD d undef) w;rw [h.val d v hv];exact hR,h.nod⟩
theorem gS {R:aF→a0→Prop}(hR:Rs[k]?=some R)(h:∀w1,E w0 w1→DepE E ol Rs w0 w1 (fun acc=>wl P ol.toArray (rO E w1 o.dst R) n [o] acc w1) ds l):uN E P n ol Rs l w0 k o ds:=by
 have e:eC Rs k=R:=by unfold eC;rw [hR];rfl
 intro w1 H
 rw [e]
 exact h w1 H
theorem CM:mP E P n ol Rs l w0 [] k:=trivial
theorem gR (ho:ol[k]?=some o)(h:uN E P n ol Rs l w0 k o ds)(h':mP E P n ol Rs l w0 dss (k+1)):mP E P n ol Rs l w0 (ds::dss) k:=
 ⟨by rw [ho];exact h,h'⟩
theorem DepE.apply {w1:a0}{k:Fr→Prop}{a:Act}:∀(ds:List Nat) (acc:Fr),(∀j∈ds,rQ E ol Rs w0 j a w1)→DepE E ol Rs w0 w1 k ds acc→Rp n acc a→∃acc',Rp n acc' a∧k acc'
 | [],acc,_,h,hr=>⟨acc,hr,h⟩
 | j::ds,acc,hf,h,hr=>by
  obtain⟨wj,e1,e2,hR⟩:=hf j (by simp)
  refine DepE.apply ds _ (fun i hi=>hf i (by simp [hi])) (h _ wj hR e1 e2) ?_
  cases hd:bN ol j with
  | none=>exact hr
  | some d=>exact hr.cons rfl
theorem CN:∀{dss:List (List Nat)}{k:Nat},mP E P n ol Rs l w0 dss k→∀(i:Nat) (o:aP),ol[k+i]?=some o→i<dss.length→uN E P n ol Rs l w0 (k+i) o ((dss[i]?).getD [])
 | [],_,_,i,_,_,hi=>by simp at hi
 | ds::dss,k,h,0,o,ho,_=>by
  have:=h.1
  rw [show ol[k]?=some o from ho] at this
  simpa using this
 | ds::dss,k,h,i+1,o,ho,hi=>by
  have e:k+(i+1)=k+1+i:=by omega
  have:=CN h.2 i o (by rw [←e];exact ho) (by simpa using hi)
  rw [e]
  simpa using this
theorem IC (hE:DR E)(hk:DrawOk n ol m [] l dss rl){a:Act}(ho:ol[i]?=some o)(him:i<m)(hm:∀i,m≤i→i<ol.length→listed.getD i false=false)(hr:Rp n l a)(hfact:∀i,i<ol.length→listed.getD i false=true→rQ E ol Rs w0 i a w)(hx:E w0 w)(e:E w w')(hR:eC Rs i v w'):Rp n l (a.put o.dst v)∧∀j,j<ol.length→(listed.setIfInBounds i true).getD j false=true→rQ E ol Rs w0 j (a.put o.dst v) w':=by
 obtain⟨d,hd,ac,U,H⟩:=hk.dst i o ho him
 rw [hd]
 refine⟨hr.put_far U v,fun j hj I=>?_⟩
 by_cases J:i=j
 ·subst J
  refine⟨w',hE.trans hx e,hE.refl _,?_⟩
  have e1:bN ol i=some d:=by unfold bN;rw [ho];exact hd
  rw [e1,lC hr.size ac]
  exact hR
 ·rw [_root_.Go.getD_set_ne false J] at I
  have ab:j<m:=by
   rcases eB j m with h | h
   ·exact h
   ·rw [hm j h hj] at I;cases I
  obtain⟨w1,e1,e2,h1⟩:=hfact j hj I
  refine⟨w1,e1,hE.trans e2 e,?_⟩
  rw [pV]
  ·exact h1
  ·obtain⟨oj,aa⟩:∃oj,ol[j]?=some oj:=⟨_,d8 hj⟩
   unfold bN
   rw [aa]
   exact H j oj aa (iB J) ab
theorem M1 (hE:DR E)(hk:DrawOk n ol m [] l dss rl)(ho:mP E P n ol Rs l w0 dss 0)(hfin:∀w1,E w0 w1→DepE E ol Rs w0 w1 (fun acc=>wl P ol.toArray (NP Q) n (ol.drop m) acc w1) (d7 m) l):∀(fuel:Nat) (listed:Array Bool) (a:Act) (w:a0),nB ol.length listed≤fuel→listed.size=ol.length→Closed ol listed→(∀i,m≤i→i<ol.length→listed.getD i false=false)→Rp n l a→E w0 w→
   (∀i,i<ol.length→listed.getD i false=true→rQ E ol Rs w0 i a w)→wpAny P .any ol.toArray (NP Q) fuel listed a w:=by
 intro fuel
 induction fuel with
 | zero=>
  intro listed a w hf hs hcl hm hr hx hfact
  have hall:∀i,i<ol.length→listed.getD i false=true:=by
   intro i hi
   cases h:listed.getD i false with
   | true=>rfl
   | false=>have:=jD hi hs h;omega
  have hml:m=ol.length:=by
   rcases eB m ol.length with h | h
   ·have h1:=hm m (aI _) h
    rw [hall m h] at h1;cases h1
   ·have:=hk.mle;omega
  obtain⟨acc,hacc,hwl⟩:=DepE.apply (n:=n) (d7 m) l (fun j hj=>hfact j (by have:=gC.1 hj;omega) (hall j (by have:=gC.1 hj;omega))) (hfin w hx) hr
  exact sP hk 0 m listed a w (aI _) (by omega) hf hs hcl (fun i hi=>by rw [hall i hi];simp;omega) (hwl a hacc)
 | succ fuel ih=>
  intro listed a w hf hs hcl hm hr hx hfact
  by_cases hdone:∀i,i<m→listed.getD i false=true
  ·obtain⟨acc,hacc,hwl⟩:=DepE.apply (n:=n) (d7 m) l (fun j hj=>hfact j (by have:=gC.1 hj;have:=hk.mle;omega) (hdone j (gC.1 hj))) (hfin w hx) hr
   exact sP hk (fuel+1) m listed a w (aI _) hk.mle hf hs hcl (fun i hi=>by
    rcases eB i m with h | h
    ·rw [hdone i h];simpa using h
    ·rw [hm i h hi];simp;omega) (hwl a hacc)
  ·obtain⟨j,hjm,hjl,hleast⟩:∃j,j<m∧listed.getD j false=false∧∀i,i<j→listed.getD i false=true:=by
    have key:∀k,(∃j,j<m∧j<k∧listed.getD j false=false)→∃j,j<m∧listed.getD j false=false∧∀i,i<j→listed.getD i false=true:=by
     intro k
     induction k with
     | zero=>rintro⟨j,_,h,_⟩;omega
     | succ k ihk=>
      rintro⟨j,h1,h2,h3⟩
      by_cases hs':∃j,j<m∧j<k∧listed.getD j false=false
      ·exact ihk hs'
      ·refine⟨j,h1,h3,fun i hi=>?_⟩
       cases hb:listed.getD i false with
       | true=>rfl
       | false=>exact absurd ⟨i,by omega,by omega,hb⟩ hs'
    refine key m (Classical.byContradiction fun hno=>hdone fun i hi=>?_)
    cases hb:listed.getD i false with
    | true=>rfl
    | false=>exact absurd ⟨i,hi,hi,hb⟩ hno
   have hml:=hk.mle
   obtain⟨oj,hoj⟩:∃oj,ol[j]?=some oj:=⟨_,d8 (by omega)⟩
   have hjr:j∈lP .any ol.toArray listed:=gF.2 ⟨by rw [gT];exact hjl,oj,hoj,fun e he hb=>hleast _ (hk.back j oj hoj e he hb)⟩
   have facts_of:∀(i:Nat) (o:aP),ol[i]?=some o→i<m→i∈lP .any ol.toArray listed→∀k∈(dss[i]?).getD [],rQ E ol Rs w0 k a w:=by
    intro i o hoi him hir k hkd
    have h1:=hk.deps i o hoi him k hkd
    obtain⟨_,o',ho',hall⟩:=gF.1 hir
    rw [hoi] at ho'
    cases ho'
    have h2:=hcl.reach hk i o hoi hall k h1
    have h3:k<listed.size:=by
     rcases eB k listed.size with h' | h'
     ·exact h'
     ·simp [Array.getElem?_eq_none h'] at h2
    exact hfact k (by omega) h2
   refine⟨fun h0=>(by rw [h0] at hjr;cases hjr),fun i hir=>?_⟩
   obtain⟨hun,o,hoi,hall⟩:=gF.1 hir
   have hil:i<ol.length:=(fF.1 hoi).1
   have him:i<m:=by
    rcases eB i m with h | h
    ·exact h
    ·rcases hk.tail i o hoi h j (by omega) with h1 | h1
     ·cases h1
     ·have:=hcl.reach hk i o hoi hall j h1
      rw [hjl] at this;cases this
   have hun':listed.getD i false=false:=by rw [←gT];exact hun
   have aA:=CN (k:=0) ho i o (by simpa using hoi) (by rw [hk.dlen];exact him)
   rw [fE] at aA
   obtain⟨acc,hacc,hwl⟩:=DepE.apply (n:=n) _ l (facts_of i o hoi him hir) (aA w hx) hr
   have hl:=hwl a hacc
   have next:∀v w',rO E w o.dst (eC Rs i) .normal (a.put o.dst v) w'→wpAny P .any ol.toArray (NP Q) fuel (listed.setIfInBounds i true) (a.put o.dst v) w':=by
    intro v w' hpi
    obtain⟨e,hR,_⟩:=hpi
    have hv:eC Rs i v w':=by
     obtain⟨d,hd,hdn,_⟩:=hk.dst i o hoi him
     rw [hd,lC hr.size hdn] at hR
     exact hR
    obtain⟨h1,h2⟩:=IC hE hk hoi him hm hr hfact hx e hv
    refine ih _ _ w' (by have:=jD hil hs hun';omega) (by simpa using hs) (hcl.set hoi hall) (fun k hmk hk'=>?_) h1 (hE.trans hx e) h2
    rw [_root_.Go.getD_set_ne false (by omega)];exact hm k hmk hk'
   have nolets:¬fW (rO E w o.dst (eC Rs i)):=fun⟨_,_,h⟩=>h
   unfold wpOp
   rw [kT,hoi]
   unfold wpList at hl
   simp only at hl⊢
   split at hl
   ·rename_i hw
    rw [if_pos hw]
    rcases hl with hl | hl
    ·exact bE (sJ hl (fun _ _ _ h=>h) nolets (fun a w h=>h.2.2) (fun v w' h=>next v w' h))
    ·exact absurd hl.2 nolets
   ·rename_i hw
    rw [if_neg hw]
    exact next _ _ hl
theorem P7 (hE:DR E)(hk:nT n ol m [] l dss rl=true)(ho:mP E P n ol Rs l w dss 0)(hfin:∀w1,E w w1→DepE E ol Rs w w1 (fun acc=>wl P ol.toArray (NP Q) n (ol.drop m) acc w1) (d7 m) l)(a:Act)(ha:Rp n l a):wpAny P .any ol.toArray (NP Q) ol.toArray.size (kY ol.toArray.size false) a {w with drawn:=w.drawn+1}:=by
 have I:(kY ol.toArray.size false).size=ol.length:=by simp
 have H:∀i,(kY ol.toArray.size false).getD i false=false:=by
  intro i
  simp only [kZ,vH]
  split <;> rfl
 refine M1 hE (EJ hk) ho hfin ol.toArray.size _ a _ ?_ I (fun i o ho h=>by rw [H i] at h;cases h) (fun i _ hi=>H i) ha (hE.drew w) (fun i hi h=>by rw [H i] at h;cases h)
 refine a7 uZ ?_
 simp
theorem F1 (hE:DR E)(hW:Wd F mm P)(hlo:¬fW Q)(hnd:ol.all kO=true)(hmix:P.follows .mixedOrders=true)(m:Nat)(Rs:List (aF→a0→Prop))(dss:List (List Nat))(rl:List (List Nat))(hk:nT n ol m [] l dss rl=true)(ho:mP E P n ol Rs l w dss 0)(hfin:∀w1,E w w1→DepE E ol Rs w w1 (fun acc=>wl P ol.toArray (NP Q) n (ol.drop m) acc w1) (d7 m) l):ci F mm P Q n (.region id ol.toArray true) l w:=fun a H=>
 wpIn_mono (wpIn_region_any hmix (uD hW (K5 hlo) (fun i o h=>by
  rw [eZ] at hnd
  refine hnd o ?_
  rw [List.getElem?_toArray] at h
  exact List.mem_of_getElem? h) _ _ _ _ (P7 hE hk ho hfin a H))) NP.imp
end
section
variable {B:Nat}{w w':a0}
theorem Kf.of {row:Option Nat}(hg:w.grownBy w' row)(h:∀j,row=some j→∃o,w.heap[j]?=some o∧o.isCells=true):KeepsFrom B w w':=
 ⟨hg.size,fun k o _ H U=>(hg.block k (jW.1 H).1 (fun e=>by
  obtain⟨o',J,I⟩:=h k e.symm
  rw [H] at J;cases J;rw [U] at I;cases I)).trans H⟩
theorem Ext.kf (e:Ext w w'):KeepsFrom B w w':=⟨e.size,fun _ _ _ h _=>e.heap h⟩
theorem Upd.kf (u:Upd g w w')(hb:Bk w g t vs):KeepsFrom B w w':=Kf.of u.by_ (fun j e=>by cases e;exact⟨_,hb,rfl⟩)
theorem UpdO.kf (u:UpdO A w w')(ho:Own w lb t s A n c vs):KeepsFrom B w w':=Kf.of u.by_ (fun j e=>by
 rcases ho with⟨h,_⟩ | ⟨g,cs,rfl,_,o,_⟩
 ·rw [h] at e;cases e
 ·cases e;exact⟨_,o,rfl⟩)
end
def gV (d:List Deferred)(a:Act):Act:={a with defers:=a.defers++d}
theorem yJ (d:List Deferred)(a:Act)(t:Option Tmp)(v:aF):gV d (a.put t v)=(gV d a).put t v:=by cases t <;> rfl
theorem yK (d:List Deferred)(a:Act):(gV d a).eval=a.eval:=by funext x;cases x <;> rfl
section
variable {F:Fence}{m:Nat}{P:bP}{Q:cE→Act→a0→Prop}
theorem JV (d:List Deferred){a:Act}{K K':Act→a0→Prop}(hK:∀a w,K a w→K' (gV d a) w)(h:o.wpIn F m P a w K (fun e a w=>Q e (gV d a) w)):o.wpIn F m P (gV d a) w K' Q:=by
 obtain⟨h1,H⟩:=h
 refine⟨by rw [yK];exact h1,?_⟩
 rw [yK]
 have J:∀v,K' ((gV d a).put o.dst v)=K' (gV d (a.put o.dst v)):=fun v=>by rw [yJ]
 generalize (o.semAt F.round a.eval).run P w=r at H
 cases r with
 | ok x w'=>
  cases x with
  | value v=>show K' _ _;rw [J];exact hK _ _ H
  | skip=>show K' _ _;rw [J];exact hK _ _ H
  | defer e=>
   have I:K' (gV d ({a with defers:=e::a.defers}.put o.dst undef)) w':=hK _ _ H
   rw [yJ] at I
   exact I
  | enter f args=>
   refine⟨H.1,H.2.mono fun e w'' I=>?_⟩
   cases e with
   | returned v=>show K' _ _;rw [J];exact hK _ _ I
   | panicked c=>exact I
   | outgrown=>obtain⟨a',w3,U⟩:=I;exact⟨_,_,U⟩
  | row s args=>exact⟨H.1,RowsIn.mono H.2 fun v w'' I=>by show K' _ _;rw [J];exact hK _ _ I⟩
  | round lp f t asg bd=>
   refine⟨H.1,H.2.mono fun e w'' I=>?_⟩
   cases e with
   | returned v=>show K' _ _;rw [J];exact hK _ _ I
   | panicked c=>exact I
   | outgrown=>obtain⟨a',w3,U⟩:=I;exact⟨_,_,U⟩
  | _=>exact H
 | _ x w'=>
  cases x with
  | panic v=>exact H
  | _=>exact H
theorem tN (d:List Deferred){ops:Array aP}:∀(rest:List aP) (a:Act) (w:a0),wpListIn F m P ops (fun e a w=>Q e (gV d a) w) rest a w→wpListIn F m P ops Q rest (gV d a) w
 | [],a,w,h=>h
 | o::rest,a,w,h=>by
  unfold wpListIn at h⊢
  have e1:yielded ops (gV d a).tmps=yielded ops a.tmps:=rfl
  rw [e1]
  split
  ·next hw=>
   rw [if_pos hw] at h
   exact JV d (fun a w h=>tN d rest a w h) h
  ·next hw=>
   rw [if_neg hw] at h
   refine⟨by rw [yK];exact h.1,?_⟩
   have:=tN d rest _ w h.2
   rw [yJ] at this
   exact this
end
section
variable {P:bP}
theorem JI {z:aF}(ht:P.underlying t=some (.slice e))(hinfo:(P.info? e).map (fun i=>(i.zero,i.size,i.bytes))=some (some z,s,bytes))(hzs:z.cells.size=s)(hsz:0<s)(hby:bytes≤64){xs:List aF}(hown:Own w base e s A n cap xs)(hb:base≤w.heap.size){a:a6}(hl:news.length=m*s)(hnews:∀j u,news[j]?=some u→w.cell? (a.add j)=some u)(h1:news.all (·.oneCell')=true)(hm:n+m≤1099511627776):∃A' cap' w',(lY #[t,t] ty #[By A n cap,By (some a) m c]).run P w= .ok (By A' (n+m) cap') w'∧Own w' base e s A' (n+m) cap' (xs++news)∧((A'=A∧cap'=cap∧UpdO A w w')∨(Ext w w'∧∀a',A'=some a'→w.heap.size≤a'.block)):=by
 obtain⟨i,hi,hz,H,J⟩:=info_parts hinfo
 have h1':∀u∈news,u.oneCell'=true:=by simpa [eZ] using h1
 have I:n+m≤maxLen:=by rw [eY];omega
 have o:(n+m)*bytes≤140737488355328:=by
  have:(n+m)*bytes≤1099511627776*64:=fV hm hby
  omega
 rcases hown with⟨rfl,rfl,rfl,rfl⟩ | ⟨g,cs,rfl,hg,hk,hn,ag,ao,hv⟩
 ·obtain⟨v',w',hr,h2,h3,_⟩:=run_append_own (P:=P) w w.heap.size t ty e i z s bytes ht hi hz H J hzs hsz (By none 0 0) 0 [] (World.ownsRow_nil w _ e s) a m c news hl hnews h1' I o (aI _)
  obtain⟨A',cap',rfl,U⟩:=Own.of_row h2
  exact⟨A',cap',w',hr,U.mono hb,bK ⟨Ext.of_grown h3,fun a' ha=>(U.block a' ha).1⟩⟩
 ·by_cases h:n+m≤cap
  ·have au:n*s+news.length≤cs.length:=by rw [hl,ao,←dS];exact dX s h
   obtain⟨w',ah,ab,hu,_⟩:=sR (P:=P) news 0 (n*s) w cs hk (by omega) h1'
   rw [eA] at ab
   have aa:=run_firstCells_some (P:=P) w i.size m a m c news (by rw [H];exact hl) hnews
   rw [H] at aa
   refine⟨some ⟨g,0,none⟩,cap,w',?_,bK ⟨g,_,rfl,hg,ab,h,ag,?_,?_⟩,bE ⟨rfl,rfl,hu.updO⟩⟩
   ·simp [lY,run_underlying ht,sizeOf,typeInfo,hi,Builtin.lenOf,h,aa,Addr.add_lit,H,ah]
   ·unfold gA
    simp only [List.length_append,dH,kX]
    omega
   ·rw [dS,←hl]
    exact CI hv (by omega)
  ·have hx:=hv
   obtain⟨v',w',hr,h2,h3⟩:=run_append_arg_grows (P:=P) w t ty e i z s bytes ht hi hz H J hzs hsz ⟨g,0,none⟩ n cap xs
    (by rw [←hv,dH];have:=dX s hn;omega)
    (fun j u hj=>by
     have ai:=(fF.1 hj).1
     rw [iZ,fE,hk.cell (by rw [←hv,dH] at ai;omega)]
     rw [←hv,iN] at hj
     split at hj
     ·rw [bO,hj];rfl
     ·cases hj) a m c news hl hnews (by omega) I o
   obtain⟨A',cap',rfl,U⟩:=Own.of_row h2
   exact⟨A',cap',w',hr,U.mono hb,bK ⟨Ext.of_grown h3,fun a' ha=>(U.block a' ha).1⟩⟩
variable {Q:cE→Act→a0→Prop}{n:Nat}{l:Fr}{w:a0}{ops:Array aP}{rest:List aP}{d:Nat}{ty:aO}{pos:String}{af:Array eR}{gd:Option (Nat×Bool)}
theorem vP {x:cA}{z:aF}{a:a6}{xs:List aF}(hw:cZ ops l gd=some true)(hx:bT l x=some (By A k cap))(hy:bT l y=some (By (some a) m c))(ht:P.underlying t=some (.slice e))(hinfo:(P.info? e).map (fun i=>(i.zero,i.size,i.bytes))=some (some z,s,bytes))(hzs:z.cells.size=s)(hown:Own w base e s A k cap xs)(hb:base≤w.heap.size)(news:List aF)(hl:news.length=m*s)(hnews:∀j u,news[j]?=some u→w.cell? (a.add j)=some u)(h1:news.all (·.oneCell')=true)(h:∀A' cap' w',Own w' base e s A' (k+m) cap' (xs++news)→((A'=A∧cap'=cap∧UpdO A w w')∨(Ext w w'∧∀a',A'=some a'→w.heap.size≤a'.block))→wl P ops Q n rest ((d,By A' (k+m) cap')::l) w')(hsz:0<s:=by decide)(hby:bytes≤64:=by decide)(hm:k+m≤1099511627776:=by omega)(hn:d<n:=by decide):wl P ops Q n (⟨some d,.call {callee:= .builtin .append,args:= #[x,y],argTypes:= #[t,t]},ty,pos,af,gd⟩::rest) l w:=by
 obtain⟨A',cap',w',hr,H,I⟩:=JI (P:=P) (ty:=ty) ht hinfo hzs hsz hby hown hb hl hnews h1 hm
 refine fP hw hn (fun a' o=>?_) (h A' cap' w' H I)
 unfold execOp
 simp only [resolve,invoke,builtin,c8,fO,eD,List.map_toArray,List.map_cons,List.map_nil,o.ev hx,o.ev hy]
 rw [hr]
 rfl
end
structure EA (L:Nat)(T:aO)(A:Option a6)(k cap:Nat)(xs:List aF)(v:aF)(a b:a0):Prop where
 u:UpdO A a b
 o1:Own a L T 1 A k cap xs→Own b L T 1 A k cap xs
 o2:Own a L T 1 A (k+1) cap (xs++ [v])→Own b L T 1 A (k+1) cap (xs++ [v])
def ApR (L:Nat)(T:aO)(A:Option a6)(k cap:Nat)(xs:List aF)(v:aF)(B:Nat):aF→a0→Prop:=fun r w=>
 ∃A' cap',r= By A' (k+1) cap'∧Own w L T 1 A' (k+1) cap' (xs++ [v])∧((A'=A∧cap'=cap)∨∀p,A'=some p→B≤p.block)
def BsR (T:aO)(v:aF)(B:Nat):aF→a0→Prop:=fun r w=>∃g,r= By (some ⟨g,0,none⟩) 1 1∧B≤g∧Bk w g T [v]
section
variable {L:Nat}{T:aO}{A:Option a6}{k cap:Nat}{xs:List aF}{v:aF}{a b:a0}
theorem EA.of_ext (e:Ext a b):EA L T A k cap xs v a b:=⟨UO.ext (UO.refl _ _) e,(·.ext e),(·.ext e)⟩
theorem EA.dr:DR (EA L T A k cap xs v):=⟨fun w=>EA.of_ext aB,fun h k=>⟨UO.trans h.u k.u,fun x=>k.o1 (h.o1 x),fun x=>k.o2 (h.o2 x)⟩,fun w=>EA.of_ext (Ext.refl w).drew⟩
theorem EA.app (ho:Own a L T 1 A k cap xs)(h:Own b L T 1 A' (k+1) cap' (xs++ [v]))(hc:(A'=A∧cap'=cap∧UpdO A a b)∨(Ext a b∧∀p,A'=some p→a.heap.size≤p.block)):EA L T A k cap xs v a b:=by
 rcases hc with⟨rfl,rfl,u⟩ | ⟨e,_⟩
 ·refine⟨u,fun _=>?_,fun _=>h⟩
  have hl:xs.length=k:=by have:=ho.rv.len;omega
  rcases h with⟨_,_,_⟩ | ⟨g,cs,I,H,h3,_,U,o,J⟩
  ·omega
  ·refine bK ⟨g,cs,I,H,h3,by omega,U,o,?_⟩
   have e:(cs.take ((k+1)*1)).take k=cs.take (k*1):=by rw [List.take_take];congr 1;omega
   rw [←e,J,List.take_left' hl]
 ·exact EA.of_ext e
theorem ApR.lift {r:aF}(h:ApR L T A k cap xs v B r a)(e:EA L T A k cap xs v a b)(hA:∀p,A=some p→p.block<B):ApR L T A k cap xs v B r b:=by
 obtain⟨A',cap',rfl,H,o⟩:=h
 rcases o with⟨rfl,rfl⟩ | o
 ·exact⟨_,_,rfl,e.o2 H,bE ⟨rfl,rfl⟩⟩
 ·exact⟨_,_,rfl,H.updO e.u (fun p q I J=>by have:=hA p I;have:=o q J;omega),bK o⟩
theorem BsR.lift {r:aF}(h:BsR T' u B r a)(e:EA L T A k cap xs v a b)(hA:∀p,A=some p→p.block<B):BsR T' u B r b:=by
 obtain⟨g,rfl,o,I⟩:=h
 exact⟨g,rfl,o,I.updO e.u (fun p H=>by have:=hA p H;omega)⟩
theorem ApR.kept (h2:(A'=A∧cap'=cap)∨∀p,A'=some p→B≤p.block)(hg:g<B)(hA:∀p,A=some p→p.block≠g):∀p,A'=some p→p.block≠g:=by
 rcases h2 with⟨rfl,rfl⟩ | h2
 ·exact hA
 ·intro p h;have:=h2 p h;omega
end
theorem rA:∀w,(isAgg 76).run aJ w= .ok false w:=fun _=>by kernel_rfl
theorem I7:∀w,(sizeOf 76).run aJ w= .ok 1 w:=fun _=>by kernel_rfl
theorem vY:∀w,(sizeOf 54).run aJ w= .ok 1 w:=fun _=>by kernel_rfl
theorem I8:∀w,(sizeOf 79).run aJ w= .ok 1 w:=fun _=>by kernel_rfl
structure OfC (B L M gf gp gm:Nat)(Al Am:Option a6):Prop where
 bf:B≤gf
 fp:gp≠gf
 fm:gm≠gf
 fM:gf<M
 fL:gf<L
 pL:gp<L
 mL:gm<L
 al:∀p,Al=some p→p.block<L
 am:∀p,Am=some p→p.block<L
 BL:B≤L
structure OfS (w0:a0)(n K L M gf gp gm:Nat)(sl:Bool)(Al:Option a6)(nl cl:Nat)(Am:Option a6)(capm:Nat)(xs:List Int)(W:a0):Prop where
 ext:Ext w0 W
 sz:L≤W.heap.size
 z:Zr W w0.heap.size sl Al nl cl 1
 p:Bk W gp 76 [a9 gf 0]
 m:Bk W gm 24 [AI (n:Int),AI (n:Int),By Am (n*n) capm]
 l:Lz none K 0 W M Am (n*n) capm xs
section
variable {w0:a0}{n K L M gf gp gm:Nat}{sl:Bool}{Al:Option a6}{nl cl:Nat}{Am:Option a6}{capm:Nat}{xs:List Int}{W W':a0}
theorem OfS.ex (s:OfS w0 n K L M gf gp gm sl Al nl cl Am capm xs W)(e:Ext W W'):OfS w0 n K L M gf gp gm sl Al nl cl Am capm xs W':=⟨s.ext.trans e,a7 s.sz e.size,s.z.ext e,s.p.ext e,s.m.ext e,s.l.ext e⟩
theorem OfS.nc (s:OfS w0 n K L M gf gp gm sl Al nl cl Am capm xs W)(c:Nc W W')(b:Below L W W')(hB:w0.heap.size≤L):OfS w0 n K L M gf gp gm sl Al nl cl Am capm xs W':=⟨⟨s.ext.below.trans (b.mono hB)⟩,a7 s.sz c.size,s.z.nc c,s.p.nc c,s.m.nc c,s.l.nc c⟩
theorem OfS.updR (s:OfS w0 n K L M gf gp gm sl Al nl cl Am capm xs W)(C:OfC w0.heap.size L M gf gp gm Al Am)(ho:Own W L T 1 A k c us)(u:UpdO A W W')(hT:45≠T:=by decide):OfS w0 n K L M gf gp gm sl Al nl cl Am capm xs W':=
 ⟨u.ext s.ext (fun p h=>a7 C.BL (ho.block p h).1),a7 s.sz u.size,s.z.updOT ho u hT,s.p.updO u (fun p h e=>by have:=(ho.block p h).1;have:=C.pL;omega),s.m.updO u (fun p h e=>by have:=(ho.block p h).1;have:=C.mL;omega),
  s.l.updQ ho u (fun p q h o e=>by have:=(ho.block p h).1;have:=C.am q o;omega) hT⟩
theorem OfS.updF (s:OfS w0 n K L M gf gp gm sl Al nl cl Am capm xs W)(C:OfC w0.heap.size L M gf gp gm Al Am)(hb:Bk W gf 81 us)(u:Upd gf W W'):OfS w0 n K L M gf gp gm sl Al nl cl Am capm xs W':=
 ⟨u.ext s.ext C.bf,a7 s.sz u.size,s.z.updT hb u,s.p.updN u C.fp,s.m.updN u C.fm,s.l.updT hb u (fun p h e=>by have:=(s.l.block p h).1;have:=C.fM;omega)⟩
end
structure OfM (n L gf:Nat)(sl:Bool)(Al:Option a6)(nl cl:Nat)(X:Mx)(kr kn b:Nat)(RA NA:Option a6)(rcap ncap:Nat)(ra:Nat→Option a6)(rc:Nat→Nat)(W:a0):Prop where
 f:Bk W gf 81 [By RA kr rcap,By NA kn ncap,Hs,.bool sl,By Al nl cl,AI 0]
 R:Own W L 22 1 RA kr rcap ((d7 kr).map (dW ra rc n))
 N:Own W L 3 1 NA kn ncap (((d7 kn).map (fun i:Nat=>(i:Int))).map gX)
 C:Rcs 17179869184 L kr n ra rc W X
 RN:∀p q,RA=some p→NA=some q→p.block≠q.block
 Rr:∀r,r<kr→∀p q,RA=some p→ra r=some q→p.block≠q.block
 Nr:∀r,r<kr→∀p q,NA=some p→ra r=some q→p.block≠q.block
 Rb:∀p,RA=some p→p.block<b
 Nb:∀p,NA=some p→p.block<b
 rb:∀r,r<kr→∀p,ra r=some p→p.block<b
def RC (w0:a0)(n K L M gf gp gm:Nat)(sl:Bool)(Al:Option a6)(nl cl:Nat)(Am:Option a6)(capm:Nat)(xs:List Int)(X:Mx)(k b:Nat)(W:a0):Prop:=
 L≤b∧OfS w0 n K L M gf gp gm sl Al nl cl Am capm xs W∧∃RA NA rcap ncap ra rc,OfM n L gf sl Al nl cl X k k b RA NA rcap ncap ra rc W
theorem Rcs.low {lb':Nat}{ra:Nat→Option a6}{rc:Nat→Nat}(h:Rcs K lb n m ra rc w Z)(hl:lb'≤lb):Rcs K lb' n m ra rc w Z:=⟨fun r hr=>by obtain⟨zs,o,H⟩:=h.row r hr;exact⟨zs,o.mono (aI _) (aI _) hl,H⟩,h.dis⟩
theorem C3 {lc:Nat}{ra:Nat→Option a6}{rc:Nat→Nat}:(d7 k).map (dW ra rc n)++ [By LA n lc]=(d7 (k+1)).map (dW (fun r=>if r=k then LA else ra r) (fun r=>if r=k then lc else rc r) n):=by
 rw [List.range_succ,List.map_append]
 congr 1
 ·refine List.map_congr_left fun r hr=>?_
  have:=gC.1 hr
  unfold dW
  simp only [if_neg (show¬r=k by omega)]
 ·simp [dW]
theorem K4:((d7 k).map (fun i:Nat=>(i:Int))).map gX++ [AI (k:Int)]=((d7 (k+1)).map (fun i:Nat=>(i:Int))).map gX:=by
 rw [List.range_succ,List.map_append,List.map_append];rfl
theorem OI (hxa:ZF w Aa na capa K xs)(hn:n≤64)(hna:na=n*n)(hX:En n n X xs)(hKB:K≤17179869184):aR aJ 43 #[.agg #[AI n,AI n,By Aa na capa]] w (Gv w (fun v w'=>∃g RA NA rcap ncap ra rc,v= a9 g 0∧Apt w.heap.size n g RA NA ra∧zM w.heap.size n g RA NA rcap ncap ra rc (d7 n) X false 1 0 w')):=by
 have jq:w.heap.size≤w.heap.size:=aI _
 have du:=hxa
 obtain⟨msa,_,_⟩:=hxa
 refine B8 Tryz.func43 G (n:=34) G (bq G) (args:= [.agg #[AI n,AI n,By Aa na capa]]) (bH [(0,.agg #[AI n,AI n,By Aa na capa])] ⟨rfl,Ht⟩ (sr (bx [AI n,AI n,By Aa na capa] aB G G G fun _ _ fb _ _ dn=>(mv 1 G (aE (sr (cl (vs:= [AI 1]) dn (lI dn.size (by decide) (by decide)) G (by kernel_rfl) fun _ _ r8 e7 fh=>?_)))))))
 obtain⟨s9,A9,n9,c9,rfl,z9⟩:=r8
 refine pu (v:= .agg #[S0,S0,F0,.bool s9,By A9 n9 c9,I0]) G (mN [S0,S0,F0,.bool s9,By A9 n9 c9,I0] fh (fb.ext e7).lt G G G fun H _ bw ee _ bi eg=>(dM G (z:= .pointer none) (vs:= [.pointer none]) (fun _=>by kernel_rfl) G fun ab _ nb=>?_))
 have bv:=nb.bk
 have dh:w.heap.size≤ab:=by rw [←nb.at_];exact eg.size
 have ir:H<ab:=by rw [←nb.at_];exact bw.lt
 have ba:=nb.ext
 clear nb
 have fg:=eg.trans ba
 refine jC G G G I7 G bv (bq G) G [a9 H 0] G fun dd fa bc _=>?_
 have dy:=bc.ext fg dh
 refine aE (aH (sr (lo bS ((fb.ext (e7.t (bi.t ba))).vN bc) [AI n,AI n,By Aa na capa] G G G (cl (vs:= [.agg #[AI n,AI n,By Aa na capa]]) dy (E2 (du.ext dy) hn hn hna hKB) G (by kernel_rfl) fun _ U fv ce df=>?_))))
 obtain⟨gm,Am,capm,rfl,_,ep,dq⟩:=fv
 refine aE (bB ?_)
 have da:=(bw.ext ba).vN bc
 have I:=da.ext ce
 have em:=fa.ext ce
 have ew:=((z9.ext (bi.t ba)).updT bv bc).ext ce
 have C:OfC w.heap.size U.heap.size dd.heap.size H ab gm A9 Am:=⟨ee,by omega,(by have:=da.lt;omega),da.lt,I.lt,em.lt,ep.lt,fun p o=>(ew.own.block p o).2,fun p o=>(dq.block p o).2,df.size⟩
 have S0:OfS w n K U.heap.size dd.heap.size H ab gm s9 A9 n9 c9 Am capm xs U:=⟨df,aI _,ew,em,by rw [←hna];exact ep,by rw [←hna];exact dq⟩
 refine bH [(3,a9 ab 0),(10,.func (.func 64) #[] #[a9 gm 0])] ⟨rfl,rfl,Ht⟩ ?_
 refine ET (A:=Am) (cap:=capm) (gm:=gm) (xs:=xs) (X:=X) (K:=K) (r:=n) (c:=n) (p0:=11) (p1:=12) G G (by decide) (by decide) hn hn hKB hX (RC w n K U.heap.size dd.heap.size H ab gm s9 A9 n9 c9 Am capm xs X) ?_ ?_ ?_ ?_ ?_
  (fun v0 v1=>(5,v1)::(4,v0)::(12,v1)::(11,v0):: [(3,a9 ab 0),(10,.func (.func 64) #[] #[a9 gm 0])]) ?_ ?_ ?_
 ·rintro k b W ⟨_,S,_⟩
  exact⟨S.m,S.l.zf0⟩
 ·rintro k b V W ⟨hb,S,RA,NA,rcap,ncap,ra,rc,R⟩ x
  exact⟨hb,S.ex x,RA,NA,rcap,ncap,ra,rc,R.f.ext x,R.R.ext x,R.N.ext x,R.C.ext x,R.RN,R.Rr,R.Nr,R.Rb,R.Nb,R.rb⟩
 ·rintro k b W ⟨hb,S,RA,NA,rcap,ncap,ra,rc,R⟩
  exact⟨S.sz,S,RA,NA,rcap,ncap,ra,rc,R.f,R.R,R.N,R.C,R.RN,R.Rr,R.Nr,fun p o=>(R.R.block p o).2,fun p o=>(R.N.block p o).2,fun r hr p o=>(R.C.lt r hr p o).2⟩
 ·rintro k b V W ⟨hb,S,RA,NA,rcap,ncap,ra,rc,R⟩ x co
  exact⟨hb,S.nc x co C.BL,RA,NA,rcap,ncap,ra,rc,R.f.nc x,R.R.nc x,R.N.nc x,R.C.nc x,R.RN,R.Rr,R.Nr,R.Rb,R.Nb,R.rb⟩
 ·exact⟨aI _,S0,none,none,0,0,fun _=>none,fun _=>0,I,Own.nil _ _ _ _,Own.nil _ _ _ _,⟨fun r hr=>(by omega),fun r s hr=>(by omega)⟩,fun p q o=>(by cases o),fun r hr=>(by omega),fun r hr=>(by omega),fun p o=>(by cases o),fun p o=>(by cases o),fun r hr=>(by omega)⟩
 ·intro lp v0 v1 Kp W hk
  refine EZ (u6 (Wd.round _ _ _) (oG (oG (fun⟨_,_,h⟩=>h))) G (mv 1 G (aS (EC (u6 (Wd.round _ _ _) (oG (fun⟨_,_,h⟩=>h)) G (mv 1 G (aS ?_)))))))
  exact hk
 ·rintro lp k b W LA lc zs _ hk ⟨gj,S,RA,NA,rcap,ncap,ra,rc,R⟩ hb hz gg dl hQ
  have hf:=R.f
  have o:=S.p
  have bg:=S.sz
  have ai:∀p,RA=some p→p.block<W.heap.size:=fun p o=>(R.R.block p o).2
  have ah:∀p,RA=some p→p.block≠ab:=fun p o e=>by have:=(R.R.block p o).1;have:=C.pL;omega
  have aj:∀p,RA=some p→p.block≠H:=fun p o e=>by have:=(R.R.block p o).1;have:=C.fL;omega
  have hO:=R.R
  refine F2 (EZ ?_)
  refine F1 (E:=EA U.heap.size 22 RA k rcap ((d7 k).map (dW ra rc n)) (By LA n lc)) EA.dr (Wd.round _ _ _) (oG (yV dl)) G cF 8 [Is (a9 H 0),Is (a9 H 0),Is (a9 H 0),Is (a9 H 0),Is (By RA k rcap),Is (By LA n lc),BsR 22 (By LA n lc) W.heap.size,ApR U.heap.size 22 RA k rcap ((d7 k).map (dW ra rc n)) (By LA n lc) W.heap.size] [[],[],[1],[2],[3],[],[5],[4,6]] [[],[],[1],[1,2],[1,2,3],[],[5],[1,2,3,4,5,6],[0,1,2,3,4,5,6,7],[0,1,2,3,4,5,6,7,8],[0,1,2,3,4,5,6,7,8,9]] rfl
   (gR G (gS G ?_) (gR G (gS G ?_) (gR G (gS G ?_) (gR G (gS G ?_) (gR G (gS G ?_) (gR G (gS G ?_) (gR G (gS G ?_) (gR G (gS G ?_) CM)))))))) ?_
  ·intro v e
   refine gB (aK G G (aQ rA (o.updO e.u ah) G) ?_)
   exact gQ G (EA.dr.refl _) rfl
  ·intro v e
   refine gB (aK G G (aQ rA (o.updO e.u ah) G) ?_)
   exact gQ G (EA.dr.refl _) rfl
  ·intro v e
   refine eJ G G fun x0 y0 h0 e0 f0=>?_
   obtain rfl:=h0
   refine gB (pf H 0 G ?_)
   exact gQ G (EA.dr.refl _) rfl
  ·intro v e
   refine eJ G G fun x0 y0 h0 e0 f0=>?_
   obtain rfl:=h0
   refine gB (pf H 0 G ?_)
   exact gQ G (EA.dr.refl _) rfl
  ·intro v e
   refine eJ G G fun x0 y0 h0 e0 f0=>?_
   obtain rfl:=h0
   refine gB (aK G G (aQ cG (hf.updO e.u aj) G) ?_)
   exact gQ G (EA.dr.refl _) rfl
  ·intro v e
   refine gB (mv 1 G ?_)
   exact gQ G (EA.dr.refl _) rfl
  ·intro v e
   refine eJ G G fun x0 y0 h0 e0 f0=>?_
   obtain rfl:=h0
   refine gB (jX G G (k:=1) (e:=22) [By LA n lc] (fun _=>by kernel_rfl) fun g w2 nb=>?_)
   exact gQ G (EA.of_ext nb.ext) ⟨g,rfl,by rw [←nb.at_];exact e.u.size,nb.bk⟩
  ·intro v e
   refine eJ G G fun x0 y0 h0 e0 f0=>?_
   obtain rfl:=h0
   refine eJ G G fun x1 y1 h1 e1 f1=>?_
   obtain⟨g,rfl,hg,cx⟩:=h1.lift f1 ai
   refine gB ?_
   have ho:=e.o1 hO
   refine vP (z:= By none 0 0) (s:=1) (bytes:=24) (e:=22) G G G (by kernel_rfl) (by kernel_rfl) G ho (a7 bg e.u.size) [By LA n lc] G (wS _ cx) G fun A1 c1 w2 ar aq=>?_
   exact gQ G (EA.app ho ar aq) ⟨_,_,rfl,ar,aq.imp (fun h=>⟨h.1,h.2.1⟩) (fun h p o=>a7 e.u.size (h.2 p o))⟩
  intro _ e1
  refine eJ G G fun x0 y0 h0 gn f0=>?_
  obtain rfl:=h0
  refine eJ G G fun x1 y1 h1 gx f1=>?_
  obtain rfl:=h1
  refine eJ G G fun x2 y2 h2 bi f2=>?_
  obtain rfl:=h2
  refine eJ G G fun x3 y3 h3 fo f3=>?_
  obtain rfl:=h3
  refine eJ G G fun x4 y4 h4 ge f4=>?_
  obtain rfl:=h4
  refine eJ G G fun x5 y5 h5 fk f5=>?_
  obtain rfl:=h5
  refine eJ G G fun x6 y6 h6 fy f6=>?_
  obtain⟨g9,rfl,ic,dw⟩:=h6
  refine eJ G G fun x7 y7 h7 ig f7=>?_
  obtain⟨A1,c1,rfl,cz,aw⟩:=h7.lift f7 ai
  refine gB (pf H 0 G (pf H 0 G ?_))
  have I:=hf.updO e1.u aj
  refine jC G G G vY G I (bq G) G [By A1 (k+1) c1,By NA k ncap,F0,.bool s9,By A9 n9 c9,I0] G fun w2 bh u2 ft=>(aS (dA (EC ?_)))
  have S2:=(S.updR C hO e1.u).updF C I u2
  have eh:=(hz.updQ hO e1.u (fun p q o J e=>by have:=R.Rb p o;have:=(hz.block q J).1;omega)).updT I u2 (fun p o e=>by have:=(hz.block p o).1;have:=C.fL;omega)
  have cn:=cz.updT I (by decide) u2
  have cg:=(R.N.updO e1.u R.RN).updT I (by decide) u2
  have cm:=(R.C.updQ hO e1.u R.Rr).updT I u2 (fun r hr p o e=>by have:=(R.C.lt r hr p o).1;have:=C.fL;omega)
  have ik:W.heap.size≤w2.heap.size:=a7 e1.u.size u2.by_.size
  have R2:OfM n U.heap.size H s9 A9 n9 c9 X (k+1) k w2.heap.size A1 NA c1 ncap (fun r=>if r=k then LA else ra r) (fun r=>if r=k then lc else rc r) w2:=by
   refine⟨bh,?_,cg,⟨fun r hr=>?_,fun r s hr _ gy p q o J=>?_⟩,fun p q o J=>?_,fun r hr p q o J=>?_,fun r hr p q o J=>?_,fun p o=>(cn.block p o).2,fun p o=>(cg.block p o).2,fun r hr p o=>?_⟩
   ·rw [←C3];exact cn
   ·by_cases e:r=k
    ·subst e
     simp only
     exact⟨zs,eh.mono hKB (aI _) gj,gg⟩
    ·simp only [if_neg e]
     exact cm.row r (by omega)
   ·split at o
    ·split at J
     ·omega
     ·have:=(hz.block p o).1;have:=R.rb s (by omega) q J;omega
    ·split at J
     ·have:=(hz.block q J).1;have:=R.rb r (by omega) p o;omega
     ·exact R.C.dis r s (by omega) (by omega) gy p q o J
   ·rcases aw with⟨rfl,rfl⟩ | h
    ·exact R.RN p q o J
    ·have:=h p o;have:=(R.N.block q J).2;omega
   ·rcases aw with⟨rfl,rfl⟩ | h
    ·split at J
     ·have:=R.Rb p o;have:=(hz.block q J).1;omega
     ·exact R.Rr r (by omega) p q o J
    ·split at J
     ·have:=h p o;have:=(hz.block q J).2;omega
     ·have:=h p o;have:=(R.C.lt r (by omega) q J).2;omega
   ·split at J
    ·have:=R.Nb p o;have:=(hz.block q J).1;omega
    ·exact R.Nr r (by omega) p q o J
   ·split at o
    ·exact (eh.block p o).2
    ·exact (cm.lt r (by omega) p o).2
  have gw:KeepsFrom U.heap.size W w2:=(e1.u.kf hO).trans (u2.kf I)
  clear I bh cn cg cm e1 u2 hO aj ah ai hf o bg
  generalize (fun r=>if r=k then LA else ra r)=ra2 at R2
  generalize (fun r=>if r=k then lc else rc r)=rc2 at R2
  have hf:=R2.f
  have o:=S2.p
  have bg:=S2.sz
  have ai:∀p,NA=some p→p.block<w2.heap.size:=fun p o=>(R2.N.block p o).2
  have ah:∀p,NA=some p→p.block≠ab:=fun p o e=>by have:=(R2.N.block p o).1;have:=C.pL;omega
  have aj:∀p,NA=some p→p.block≠H:=fun p o e=>by have:=(R2.N.block p o).1;have:=C.fL;omega
  have hO:=R2.N
  generalize A1=RAx at*
  generalize c1=rcx at*
  refine F1 (E:=EA U.heap.size 3 NA k ncap (((d7 k).map (fun i:Nat=>(i:Int))).map gX) (AI (k:Int))) EA.dr (Wd.round _ _ _) (yV dl) G cF 8 [Is (a9 H 0),Is (a9 H 0),Is (a9 H 0),Is (a9 H 1),Is (By NA k ncap),Is (AI (k:Int)),BsR 3 (AI (k:Int)) w2.heap.size,ApR U.heap.size 3 NA k ncap (((d7 k).map (fun i:Nat=>(i:Int))).map gX) (AI (k:Int)) w2.heap.size] [[],[],[1],[2],[3],[],[5],[4,6]] [[],[],[1],[1,2],[1,2,3],[],[5],[1,2,3,4,5,6],[0,1,2,3,4,5,6,7],[0,1,2,3,4,5,6,7,8],[0,1,2,3,4,5,6,7,8,9]] rfl
   (gR G (gS G ?_) (gR G (gS G ?_) (gR G (gS G ?_) (gR G (gS G ?_) (gR G (gS G ?_) (gR G (gS G ?_) (gR G (gS G ?_) (gR G (gS G ?_) CM)))))))) ?_
  ·intro v e
   refine gB (aK G G (aQ rA (o.updO e.u ah) G) ?_)
   exact gQ G (EA.dr.refl _) rfl
  ·intro v e
   refine gB (aK G G (aQ rA (o.updO e.u ah) G) ?_)
   exact gQ G (EA.dr.refl _) rfl
  ·intro v e
   refine eJ G G fun x0 y0 h0 e0 f0=>?_
   obtain rfl:=h0
   refine gB (pf H 0 G ?_)
   exact gQ G (EA.dr.refl _) rfl
  ·intro v e
   refine eJ G G fun x0 y0 h0 e0 f0=>?_
   obtain rfl:=h0
   refine gB (pf H 1 G ?_)
   exact gQ G (EA.dr.refl _) rfl
  ·intro v e
   refine eJ G G fun x0 y0 h0 e0 f0=>?_
   obtain rfl:=h0
   refine gB (aK G G (aQ rB (hf.updO e.u aj) G) ?_)
   exact gQ G (EA.dr.refl _) rfl
  ·intro v e
   refine gB (mv 1 G ?_)
   exact gQ G (EA.dr.refl _) rfl
  ·intro v e
   refine eJ G G fun x0 y0 h0 e0 f0=>?_
   obtain rfl:=h0
   refine gB (jX G G (k:=1) (e:=3) [AI (k:Int)] (fun _=>by kernel_rfl) fun g w5 nb=>?_)
   exact gQ G (EA.of_ext nb.ext) ⟨g,rfl,by rw [←nb.at_];exact e.u.size,nb.bk⟩
  ·intro v e
   refine eJ G G fun x0 y0 h0 e0 f0=>?_
   obtain rfl:=h0
   refine eJ G G fun x1 y1 h1 e1 f1=>?_
   obtain⟨g,rfl,hg,cx⟩:=h1.lift f1 ai
   refine gB ?_
   have ho:=e.o1 hO
   refine vP (z:= AI 0) (s:=1) (bytes:=8) (e:=3) G G G (by kernel_rfl) (by kernel_rfl) G ho (a7 bg e.u.size) [AI (k:Int)] G (wS _ cx) G fun A1 c1 w5 ar aq=>?_
   exact gQ G (EA.app ho ar aq) ⟨_,_,rfl,ar,aq.imp (fun h=>⟨h.1,h.2.1⟩) (fun h p o=>a7 e.u.size (h.2 p o))⟩
  intro _ e1
  refine eJ G G fun x0 y0 h0 gn f0=>?_
  obtain rfl:=h0
  refine eJ G G fun x1 y1 h1 gx f1=>?_
  obtain rfl:=h1
  refine eJ G G fun x2 y2 h2 bi f2=>?_
  obtain rfl:=h2
  refine eJ G G fun x3 y3 h3 fo f3=>?_
  obtain rfl:=h3
  refine eJ G G fun x4 y4 h4 ge f4=>?_
  obtain rfl:=h4
  refine eJ G G fun x5 y5 h5 fk f5=>?_
  obtain rfl:=h5
  refine eJ G G fun x6 y6 h6 fy f6=>?_
  obtain⟨g9,rfl,ic,dw⟩:=h6
  refine eJ G G fun x7 y7 h7 ig f7=>?_
  obtain⟨A1,c1,rfl,cz,aw⟩:=h7.lift f7 ai
  refine gB (pf H 0 G (pf H 1 G ?_))
  have I:=hf.updO e1.u aj
  refine jC G G G I8 G I (bq G) G [By RAx (k+1) rcx,By A1 (k+1) c1,F0,.bool s9,By A9 n9 c9,I0] G fun _ bh u2 ft=>(aS (dA (cC ?_)))
  have S4:=(S2.updR C hO e1.u).updF C I u2
  have cf:=cz.updT I (by decide) u2
  have ey:=(R2.R.updO e1.u (fun p q o J e=>R2.RN q p J o e.symm)).updT I (by decide) u2
  have fd:=(R2.C.updQ hO e1.u R2.Nr).updT I u2 (fun r hr p o e=>by have:=(R2.C.lt r hr p o).1;have:=C.fL;omega)
  rw [K4] at cf
  refine fun a ha=>hQ _ _ (gw.trans ((e1.u.kf hO).trans (u2.kf I))) ⟨S4.sz,S4,_,_,_,_,_,_,bh,ey,cf,fd,fun p q o J=>?_,fun r hr p q o J=>R2.Rr r hr p q o J,fun r hr p q o J=>?_,fun p o=>(ey.block p o).2,fun p o=>(cf.block p o).2,fun r hr p o=>(fd.lt r hr p o).2⟩
  ·rcases aw with⟨rfl,rfl⟩ | h
   ·exact R2.RN p q o J
   ·have:=h q J;have:=(R2.R.block p o).2;omega
  ·rcases aw with⟨rfl,rfl⟩ | h
   ·exact R2.Nr r hr p q o J
   ·have:=h p o;have:=(R2.C.lt r hr q J).2;omega
 ·rintro D b W hD ⟨hb,S,RA,NA,rcap,ncap,ra,rc,R⟩ hK a ha
  have hm:w.heap.size≤U.heap.size:=C.BL
  have au:=Nc.put (.deferred none) hK rfl
  have co:=rE hD W (jW.1 hK).1 (.deferred none)
  have S9:=S.nc au co hm
  have f9:=R.f.nc au
  have R9:=(R.R.nc au).mono hm
  have N9:=(R.N.nc au).mono hm
  have C9:=(R.C.nc au).low hm
  have hA:Apt w.heap.size n H RA NA ra:=⟨C.bf,fun p o e=>by have:=(R.R.block p o).1;have:=C.fL;omega,fun p o e=>by have:=(R.N.block p o).1;have:=C.fL;omega,fun r hr p o e=>by have:=(R.C.lt r hr p o).1;have:=C.fL;omega,R.RN,R.Rr,R.Nr⟩
  show Code.wp _ (Code.seq _ _) _ _ _
  refine wp_seq ((wpIn_wide (n:=9)).1 (wpIn_region_lit ?_))
  have ea:({a with defers:= [{target:= .collected D,args:= #[]}]}:Act)=gV [{target:= .collected D,args:= #[]}] a:=by
   unfold gV;rw [ha.nod];rfl
  rw [ea]
  refine tN _ _ _ _ (vQ (n:=34) (l:= [(3,a9 ab 0),(10,.func (.func 64) #[] #[a9 gm 0])]) ?_ G ?_ a ha)
  ·rintro⟨_,_,h⟩
   obtain⟨_,h,_⟩:=h
   cases h
  refine aK G G (aQ rA S.p G) (mv 1 G (aS ?_))
  intro a2 ez
  show Code.wp _ .ret _ _ _
  refine wp_ret ?_
  show LeavesInM _ _ _ _ _ _ (a2.defers++ [{target:= .collected D,args:= #[]}]) _ _
  rw [ez.nod]
  show LeavesInM _ _ _ _ _ _ [{target:= .collected D,args:= #[]}] _ _
  unfold LeavesInM LeavesInM
  refine⟨by simp,.inl ⟨_,_,rfl,run_takeDeferred hK,_,results_tmp G _ _ _,?_⟩⟩
  refine⟨_,congrArg _ (ez.val 2 _ G),?_,S9.ext⟩
  exact⟨_,RA,NA,rcap,ncap,ra,rc,rfl,hA,_,_,_,_,_,f9,S9.z.mono (bX _),R9,N9,C9⟩
theorem OK (hb:b≤w.heap.size)(hxa:ZF w Aa na capa 1048576 xs)(hna:na=n*n)(hn:n≤64)(hX:En n n X xs):aR aJ 21 #[.agg #[AI n,AI n,By Aa na capa]] w (Gv w (T2 (ZR b (dt n X)) (Is (AI 0)))):=by
 have co:∀i j,i<n→j<n→ln (X i j)≤1048576:=fun i j hi hj=>hX.ln hxa hi hj
 obtain⟨msa,dy,ep⟩:=hxa
 refine bQ Tryz.func21 G (n:=46) G (bq G) (args:= [.agg #[AI n,AI n,By Aa na capa]]) (bH [(0,.agg #[AI n,AI n,By Aa na capa])] ⟨rfl,Ht⟩ (sr (bx [AI n,AI n,By Aa na capa] aB G G G fun g1 _ U _ _ J=>(dG [F0,S0] J U.lt (fun _=>by kernel_rfl) G fun g6 _ cx ai _ e8 o=>(mv 1 G (aE (aH (sr (lo bS (U.ext e8) [AI n,AI n,By Aa na capa] G G G (cl (vs:= [.agg #[AI n,AI n,By Aa na capa]]) o (xY (sU hn hn hna)) G (by kernel_rfl) fun _ eg fe H h=>?_))))))))))
 obtain rfl:=fe
 refine mv 1 G (aE (sr (mv 1 G (aN G G G false (by decide) (aE (aY G (bA (aM (aH (sr (pf g1 0 G (aK G G (aQ bV (U.ext (e8.t H)) G) (pf g1 1 G ?_)))))))))))))
 refine aK G G (aQ bV (U.ext (e8.t H)) G) (aN G G G false (kC (a:=n) (b:=n) G G) (aE (aY G (bA (aM (sr (lo bS (U.ext (e8.t H)) [AI n,AI n,By Aa na capa] G G G ?_)))))))
 obtain⟨ac,I⟩:∃l,l=eg.heap.size:=⟨_,rfl⟩
 have au:w.heap.size≤ac:=by rw [I];exact h.size
 have ar:g1<ac:=by rw [I];exact ((U.ext (e8.t H))).lt
 have aa:g6<ac:=by rw [I];exact ((cx.ext H)).lt
 refine bR G G (vs:= [.agg #[AI n,AI n,By Aa na capa]]) (by kernel_rfl) (by decide) (OI (K:=1048576) ((show ZF w _ _ _ _ _ from⟨msa,dy,ep⟩).ext h) hn hna hX (by decide)) ?_
 rintro _ wof ⟨_,rfl,⟨gf,RA,NA,rcap,ncap,ra,rc,rfl,hA,cg⟩,eof⟩
 refine bL ?_
 rw [←I] at hA cg
 have cj:ac≤wof.heap.size:=by rw [I];exact eof.size
 have dl:=h.trans eof
 refine mv 1 G (aE (aH (sr (pf g1 1 G (aK G G (aQ bV (U.ext (e8.t (H.t eof))) G) (mv 1 G (aE (bB ?_))))))))
 refine d6 (T:=a0×Nat×List Nat×Mx×Bool×Int) (fun⟨wr,k,ps,Z,tu,z⟩=> [(0,.agg #[AI n,AI n,By Aa na capa]),(1,a9 g1 0),(2,a9 g6 0),(3,AI 0),(4,AI 0),(5,a9 gf 0),(7,.agg #[AI n,AI n,By Aa na capa]),(8,AI 0),(9,AI 0),(10,Hs),(13,a9 g1 0),(14,AI n),(15,a9 g1 1),(16,AI n),(17,Hs),(19,.agg #[AI n,AI n,By Aa na capa]),(20,a9 gf 0),(21,a9 g1 1),(22,AI n),(23,AI k)]) (fun⟨wr,k,ps,Z,tu,z⟩=>wr) (fun⟨wr,k,ps,Z,tu,z⟩=>(Ext w wr)∧(k≤n)∧(Bk wr g1 24 [AI n,AI n,By Aa na capa])∧(Bk wr g6 41 [F0,S0])∧(ac≤wr.heap.size)∧(zM ac n gf RA NA rcap ncap ra rc ps Z tu z k wr)∧(Inv n X k ps Z tu z)) (fun⟨wr,k,ps,Z,tu,z⟩=>n-k)
  (⟨wof,0,(d7 n),X,false,1⟩:a0×Nat×List Nat×Mx×Bool×Int) ⟨dl,(by omega),(U.ext (e8.t (H.t eof))),(cx.ext (H.t eof)),cj,cg,(Inv.start (fun _ _ _ _=>rfl))⟩ G ⟨rfl,rfl,rfl,rfl,rfl,rfl,rfl,rfl,rfl,rfl,rfl,rfl,rfl,rfl,rfl,rfl,rfl,rfl,rfl,rfl,Ht⟩ ?_
 rintro⟨wr,k,ps,Z,tu,z⟩ ⟨J,_,b_g1,b_g6,av,hF,hI⟩
 refine d4 [(0,.agg #[AI n,AI n,By Aa na capa]),(1,a9 g1 0),(2,a9 g6 0),(3,AI 0),(4,AI 0),(5,a9 gf 0),(7,.agg #[AI n,AI n,By Aa na capa]),(8,AI 0),(9,AI 0),(10,Hs),(13,a9 g1 0),(14,AI n),(15,a9 g1 1),(16,AI n),(17,Hs),(19,.agg #[AI n,AI n,By Aa na capa]),(20,a9 gf 0),(21,a9 g1 1),(22,AI n),(23,AI k)] wr G ⟨rfl,rfl,rfl,rfl,rfl,rfl,rfl,rfl,rfl,rfl,rfl,rfl,rfl,rfl,rfl,rfl,rfl,rfl,rfl,rfl,Ht⟩ (aH ?_)
 by_cases cd:k<n
 ·refine aL (aN G G G true (dB (a:=k) (b:=n) G G) (aE (aH (bJ G (bA (aM (aH (bB (sr (mv 2 G (aE (sr (mv 1 G ?_)))))))))))))
  refine mv 1 G ?_
  obtain⟨ao,aj,aq,ak,dw,ag,ah,cz,cu,da⟩:=hF
  refine bR G G (vs:= [a9 gf 0,AI k]) (by kernel_rfl) (by decide) (OH av hA ag ah cz cu da hn co cd hI) ?_
  rintro e wst ⟨ab,hc⟩
  rcases hc with⟨rfl,eh⟩ | ⟨fb,Z2,em,z2,rfl,fg,dn⟩
  ·refine bL ?_
   have o:=ab.toExt J au
   refine pu (v:= BY) G (aE (bJ G (sr (pu (v:= .agg #[F0,S0]) G ?_))))
   have cn:=(b_g6.bl ab aa)
   refine so aG cn [F0,S0] o ai G G G G fun dm ce _ h=>(mv 1 G (aE (bG (kQ (dZ (qX (kQ (dZ (bF [.agg #[F0,S0],I0] G ⟨⟨_,rfl,bY aG ce [F0,S0] G (bq G) rfl⟩,rfl,Ht⟩ ?_)))))))))
   exact⟨_,rfl,⟨_,_,rfl,⟨_,_,_,_,rfl,(((Zr.zero (w:=dm) (base:=w.heap.size))).cast (hI.none cd eh).symm).mono hb⟩,rfl⟩,h⟩
  ·refine bL ?_
   have o:=ab.toExt J au
   refine pu (v:= Hs) G (aE (aY G (bA (cC (aM (aL (bC G G G ((k+1:Nat):Int) (bW (a:=k) (b:=1) G G) (mv 1 G (aS (cB (⟨wst,k+1,fb,Z2,em,z2⟩:a0×Nat×List Nat×Mx×Bool×Int) ⟨o,(by omega),(b_g1.bl ab ar),(b_g6.bl ab aa),(a7 av ab.size),fg,dn⟩ (show n-(k+1)<n-k by omega) G ⟨rfl,rfl,rfl,rfl,rfl,rfl,rfl,rfl,rfl,rfl,rfl,rfl,rfl,rfl,rfl,rfl,rfl,rfl,rfl,rfl,Ht⟩))))))))))
 ·refine aL (aN G G G false (dK (a:=k) (b:=n) G G) (aE (aH (aY G (cM (cK (cT (cL (aM (aH (aH ?_)))))))))))
  have bw:Inv n X n ps Z tu z:=(show k=n by omega)▸hI
  have cf:=bw.full
  have ba:ln z≤17179869184:=by rw [bw.last];exact a7 (mI n _ fun a b ha hb=>t7 bw.per co a b ha hb) (by have:=fV (show n≤64 by omega) (show 1048576+n≤1048640 by omega);omega)
  obtain⟨ao,aj,aq,ak,dw,ag,ah,cz,cu,da⟩:=hF
  have ft:=hA.lg
  by_cases cm:tu=true
  ·subst cm
   refine aL (mv 1 G (pf gf 0 G (pf gf 2 G (aK G G (aQ fU ag G) (aE (bJ G (sr (mv 1 G (pf gf 0 G (pf gf 3 G (lo aG ag (a4 ao aj aq ak) G G G ?_)))))))))))
   have fk:ln (-z)≤17179869184:=(by rw [gL];exact ba)
   refine cl (vs:= [O ao aj aq ak]) J (oW J.size ah.zi (ah.le (aZ ba G))) G (by kernel_rfl) fun _ _ fh ew o=>?_
   obtain⟨bu,bv,bc,bz,rfl,ee⟩:=fh
   have az:=(b_g6.ext ew)
   refine so aG az (a4 bu bv bc bz) o ai G G G G fun _ dc ey h=>(mv 1 G (aE (bG (dZ (bF [O bu bv bc bz,I0] G ⟨⟨_,rfl,bY aG dc (a4 bu bv bc bz) G (bq G) rfl⟩,rfl,Ht⟩ ?_)))))
   exact⟨_,rfl,⟨_,_,rfl,⟨_,_,_,_,rfl,(((ee.updT az ey)).cast (by rw [cf];rfl)).mono hb⟩,rfl⟩,h⟩
  ·obtain rfl:tu=false:=by simpa using cm
   refine aL (mv 1 G (pf gf 0 G (pf gf 2 G (aK G G (aQ fU ag G) (aE (aY G (bA (aM (sr (mv 1 G (pf gf 0 G (pf gf 3 G (lo aG ag (a4 ao aj aq ak) G G G ?_)))))))))))))
   refine cl (vs:= [O ao aj aq ak]) J (nP J.size ah.zi (ah.le (aZ ba G))) G (by kernel_rfl) fun _ _ du dh o=>?_
   obtain⟨bj,bg,bi,bh,rfl,dq⟩:=du
   have aw:=(b_g6.ext dh)
   refine so aG aw (a4 bj bg bi bh) o ai G G G G fun _ dd fd h=>(mv 1 G (aE (bG (bF [O bj bg bi bh,I0] G ⟨⟨_,rfl,bY aG dd (a4 bj bg bi bh) G (bq G) rfl⟩,rfl,Ht⟩ ?_))))
   exact⟨_,rfl,⟨_,_,rfl,⟨_,_,_,_,rfl,(((dq.updT aw fd)).cast (by rw [cf];rfl)).mono hb⟩,rfl⟩,h⟩
structure Ap2 (n:Nat)(RA:Option a6)(ra:Nat→Option a6):Prop where
 Rr:∀r,r<n→∀p q,RA=some p→ra r=some q→p.block≠q.block
structure Lns (lb n cc:Nat)(RA:Option a6)(rcap:Nat)(ra:Nat→Option a6)(rc:Nat→Nat)(ps:List Nat)(Z:Mx)(w:a0):Prop where
 R:Own w lb 22 1 RA n rcap (ps.map (dW ra rc cc))
 C:Rcs 17179869184 lb n cc ra rc w Z
 per:Per n ps
theorem DE:(Tryz.prog.info? 22).map (fun i=>(i.zero,i.size,i.bytes))=some (some (By none 0 0),1,24):=by kernel_rfl
section
variable {Q:cE→Act→a0→Prop}{N:Nat}{l:Fr}{w:a0}{ops:Array aP}{rest:List aP}{d:Nat}{ty:aO}{pos:String}{af:Array eR}{gd:Option (Nat×Bool)}
end
section
variable {w0:a0}{n cc K L M gl gm lr:Nat}{Am:Option a6}{capm:Nat}{xs:List Int}{W W':a0}
end
theorem Lns.ext {ra:Nat→Option a6}{rc:Nat→Nat}(h:Lns lb n cc RA rcap ra rc ps Z w)(e:Ext w w'):Lns lb n cc RA rcap ra rc ps Z w':=⟨h.R.ext e,h.C.ext e,h.per⟩
theorem NF (hb:b≤w.heap.size)(hxa:ZF w Aa na capa K xs)(hna:na=r*c)(hr:r≤64)(hc:c≤64)(hX:En r c X xs){ga:Nat}(hi:i<c)(hj:j<r)(ha:Bk w ga 24 [AI r,AI c,By Aa na capa])(hKB:K≤17179869184):aR aJ 93 #[AI i,AI j,a9 ga 0] w (Gv w (ZR b (tq X i j))):=by
 have bg:=hxa
 obtain⟨msa,ar,ak⟩:=hxa
 refine bQ Tryz.func93 G (n:=17) G (bq G) (args:= [AI i,AI j,a9 ga 0]) ?_
 have ae:=ha.lt
 refine bH [(0,AI i),(1,AI j),(2,a9 ga 0)] ⟨rfl,rfl,rfl,Ht⟩ (sr (dG [F0,S0] aB ha.lt (fun _=>by kernel_rfl) G fun _ _ aw ai _ e3 h=>(aE (aH ?_))))
 have bo:=xO hj hi
 have bi:=iJ (show j≤64 by omega) hc
 refine aL (pf ga 2 G (aK G G (aQ cD (ha.ext e3) G) (mv 1 G (pf ga 1 G (aK G G (aQ bV (ha.ext e3) G) (bC G G G ((j*c:Nat):Int) (kE (a:=j) (b:=c) G G) (mv 1 G (bC G G G (((j*c)+i:Nat):Int) (bW (a:=j*c) (b:=i) G G) ?_))))))))
 obtain⟨au,az,aj,aq,aa,ab,av⟩:=ar.at (i:=(j*c)+i) (by omega)
 refine aX G G G bM aG.size ((j*c)+i) G au aa (aK G G (ab _ h _ _ aG) (cl (vs:= [.agg #[.bool az,By aj (msa.getD ((j*c)+i) 0) aq]]) h (nP h.size (av.ext h) (a7 (ak ((j*c)+i)) (aZ hKB G))) G (by kernel_rfl) fun _ _ ao e9 ah=>?_))
 obtain⟨U,I,J,H,rfl,ba⟩:=ao
 have o:=(aw.ext e9)
 refine so aG o (a4 U I J H) ah ai G G G G fun _ ac bc ag=>(aE (bG (bF [O U I J H] G ⟨⟨_,rfl,bY aG ac (a4 U I J H) G (bq G) rfl⟩,Ht⟩ ?_)))
 exact⟨_,rfl,⟨_,_,_,_,rfl,(((ba.updT o bc)).cast (hX j i hj hi)).mono hb⟩,ag⟩
theorem E1 (hb:b≤w.heap.size)(hlb:lb≤w.heap.size)(hxa:ZF w Aa na capa K xs)(hna:na=r*c)(hr:r≤64)(hc:c≤64)(hX:En r c X xs)(hKB:K≤17179869184):aR aJ 72 #[.agg #[AI r,AI c,By Aa na capa]] w (Gv w (T2 (MQ ((c:Nat):Int) ((r:Nat):Int) (LQ none K b lb (c*r) (En c r (tq X)))) (Is (AI 0)))):=by
 have aa:=hxa
 obtain⟨msa,_,_⟩:=hxa
 refine bQ Tryz.func72 G (n:=17) G (bq G) (args:= [.agg #[AI r,AI c,By Aa na capa]]) (bH [(0,.agg #[AI r,AI c,By Aa na capa])] ⟨rfl,Ht⟩ (sr (bx [AI r,AI c,By Aa na capa] aB G G G fun g1 _ H _ _ ba=>(dG [I0,I0,S0] ba H.lt (fun _=>by kernel_rfl) G fun g6 _ ao aj _ e8 aw=>(mv 1 G (aE (aH (sr (lo bS (H.ext e8) [AI r,AI c,By Aa na capa] G G G (cl (vs:= [.agg #[AI r,AI c,By Aa na capa]]) aw (xY (sU hr hc hna)) G (by kernel_rfl) fun _ ae bc o J=>?_))))))))))
 obtain rfl:=bc
 refine mv 1 G (aE (sr (mv 1 G (aN G G G false (by decide) (aE (aY G (bA (aM (sr (pf g1 1 G (aK G G (aQ bV (H.ext (e8.t o)) G) (pf g1 0 G (aK G G (aQ bV (H.ext (e8.t o)) G) ?_)))))))))))))
 refine pu (v:= .func (.func 93) #[] #[a9 g1 0]) G ?_
 obtain⟨_,ac,_,ah,_,_⟩:∃lb,lb≤ae.heap.size∧ae.heap.size≤lb∧w.heap.size≤lb∧g1<lb∧g6<lb:=⟨ae.heap.size,aI _,aI _,J.size,(H.ext (e8.t o)).lt,(ao.ext o).lt⟩
 refine cl (vs:= [AI c,AI r,.func (.func 93) #[] #[a9 g1 0]]) J (E0 (f:=tq X) (cs:= [a9 g1 0]) (K:=K) J.size ac hc hr (enters_of Tryz.func93 (by kernel_rfl) G) (fun i j hi hj=>hX.ln aa hj hi) (fun i j w' hi hj x=>(NF (a7 (Ext.refl _).size x.size) ((aa.ext J).ext x) hna hr hc hX hi hj ((H.ext (e8.t o)).ext x) hKB))) G (by kernel_rfl) fun _ _ au bh av=>?_
 obtain⟨_,rfl,⟨h,I,_,rfl,ab,ak⟩⟩:=au
 have ag:=ab.block
 have U:=(ao.ext (o.t bh))
 refine so bS U [AI c,AI r,By h (c*r) I] av aj G G G G fun _ ar az bg=>(mv 1 G (aE (bG (bF [.agg #[AI c,AI r,By h (c*r) I],I0] G ⟨⟨_,rfl,bY bS ar [AI c,AI r,By h (c*r) I] G (bq G) rfl⟩,rfl,Ht⟩ ?_))))
 exact⟨_,rfl,⟨_,_,rfl,⟨_,rfl,⟨_,_,_,rfl,((ab.updT U az (show∀p:a6,h=some p→p.block≠g6 from fun p hp=>by have:=ag p hp;omega))).mono (aI _) hb (a7 hlb ah),ak⟩⟩,rfl⟩,bg⟩
section
variable {Q:cE→Act→a0→Prop}{N:Nat}{l:Fr}{w:a0}{ops:Array aP}{rest:List aP}{d:Nat}{ty:aO}{pos:String}{af:Array eR}{gd:Option (Nat×Bool)}
theorem GR {x:cA}(hw:cZ ops l gd=some true)(hx:bT l x=some (AI 0))(hy:bT l y=some (AI (k:Int)))(hk:k≤1099511627776)(hd:d<N)(h:∀g w',w.heap.size=g→Own w' g 22 1 (some ⟨g,0,none⟩) 0 k []→Ext w w'→wl aJ ops Q N rest ((d,By (some ⟨g,0,none⟩) 0 k)::l) w'):wl aJ ops Q N (⟨some d,.makeSlice 54 x y,ty,pos,af,gd⟩::rest) l w:=by
 obtain⟨i,hi,H,U,o⟩:=info_parts DE
 have hr:=run_make (P:=aJ) w 54 22 i _ Tryz.underlying54 hi H .i64 .i64 0 (k:Int) (by omega) (by omega) (by rw [o];omega) (by omega)
 rw [Int.toNat_natCast,show (0:Int).toNat=0 from rfl,U] at hr
 obtain⟨cs,I,J⟩:∃cs:List aF,madeCells (Value.slice none 0 0).cells (k*1)=cs.toArray∧cs.length=k*1:=⟨(madeCells (Value.slice none 0 0).cells (k*1)).toList,Array.toArray_toList.symm,by rw [Array.length_toList,size_madeCells]⟩
 rw [I] at hr
 refine fP hw hd (fun a' ha=>?_) (h _ (w.alloc (.cells cs.toArray 22)) G (bK ⟨w.heap.size,cs,rfl,aI _,Bk.new _ _ _,bX _,by rw [eY];omega,J,rfl⟩) ((Ext.refl w).alloc _))
 have e':(lV 54 (a'.eval x) (a'.eval y)).run aJ w= .ok (By (some ⟨w.heap.size,0,none⟩) 0 k) (w.alloc (.cells cs.toArray 22)):=by rw [ha.ev hx,ha.ev hy];exact hr
 show ((lV 54 (a'.eval x) (a'.eval y)>>=fun r=>pure (iA r):Sem Next)).run aJ w=_
 rw [c8,e'];rfl
end
structure LhC (B L M gl gm:Nat)(Am:Option a6):Prop where
 bf:B≤gl
 fm:gm≠gl
 fM:gl<M
 fL:gl<L
 mL:gm<L
 am:∀p,Am=some p→p.block<L
 BL:B≤L
structure LhS (w0:a0)(n cc K L M gm:Nat)(Am:Option a6)(capm:Nat)(xs:List Int)(W:a0):Prop where
 ext:Ext w0 W
 sz:L≤W.heap.size
 m:Bk W gm 24 [AI (n:Int),AI (cc:Int),By Am (n*cc) capm]
 l:Lz none K 0 W M Am (n*cc) capm xs
section
variable {w0:a0}{n cc K L M gl gm lr:Nat}{Am:Option a6}{capm:Nat}{xs:List Int}{W W':a0}
theorem LhS.ex (s:LhS w0 n cc K L M gm Am capm xs W)(e:Ext W W'):LhS w0 n cc K L M gm Am capm xs W':=⟨s.ext.trans e,a7 s.sz e.size,s.m.ext e,s.l.ext e⟩
theorem LhS.nc (s:LhS w0 n cc K L M gm Am capm xs W)(c:Nc W W')(b:Below L W W')(hB:w0.heap.size≤L):LhS w0 n cc K L M gm Am capm xs W':=⟨⟨s.ext.below.trans (b.mono hB)⟩,a7 s.sz c.size,s.m.nc c,s.l.nc c⟩
theorem LhS.updR (s:LhS w0 n cc K L M gm Am capm xs W)(hr:w0.heap.size≤lr)(ho:Own W lr T 1 A k c us)(hgm:∀p,A=some p→p.block≠gm)(ham:∀p q,A=some p→Am=some q→p.block≠q.block)(u:UpdO A W W')(hT:45≠T:=by decide):LhS w0 n cc K L M gm Am capm xs W':=
 ⟨u.ext s.ext (fun p h=>a7 hr (ho.block p h).1),a7 s.sz u.size,s.m.updO u hgm,s.l.updQ ho u ham hT⟩
theorem LhS.updF (s:LhS w0 n cc K L M gm Am capm xs W)(C:LhC w0.heap.size L M gl gm Am)(hb:Bk W gl 54 us)(u:Upd gl W W'):LhS w0 n cc K L M gm Am capm xs W':=
 ⟨u.ext s.ext C.bf,a7 s.sz u.size,s.m.updN u C.fm,s.l.updT hb u (fun p h e=>by have:=(s.l.block p h).1;have:=C.fM;omega)⟩
end
structure LhM (cc L lr gl gm:Nat)(Am:Option a6)(X:Mx)(k b:Nat)(RA:Option a6)(rcap:Nat)(ra:Nat→Option a6)(rc:Nat→Nat)(W:a0):Prop where
 f:Bk W gl 54 [By RA k rcap]
 R:Own W lr 22 1 RA k rcap ((d7 k).map (dW ra rc cc))
 C:Rcs 17179869184 L k cc ra rc W X
 Rr:∀r,r<k→∀p q,RA=some p→ra r=some q→p.block≠q.block
 Rb:∀p,RA=some p→p.block<b
 rb:∀r,r<k→∀p,ra r=some p→p.block<b
 Rl:∀p,RA=some p→p.block≠gl
 Rm:∀p,RA=some p→p.block≠gm
 Ra:∀p q,RA=some p→Am=some q→p.block≠q.block
def RF (w0:a0)(n cc K L M lr gl gm:Nat)(Am:Option a6)(capm:Nat)(xs:List Int)(X:Mx)(k b:Nat)(W:a0):Prop:=
 L≤b∧LhS w0 n cc K L M gm Am capm xs W∧∃RA rcap ra rc,LhM cc L lr gl gm Am X k b RA rcap ra rc W
theorem OA (hxa:ZF w Aa na capa K xs)(hn:n≤64)(hcc:cc≤64)(hna:na=n*cc)(hX:En n cc X xs)(hKB:K≤17179869184):aR aJ 31 #[.agg #[AI n,AI cc,By Aa na capa]] w (Gv w (fun v w'=>∃RA rcap ra rc,v= By RA n rcap∧Ap2 n RA ra∧Lns w.heap.size n cc RA rcap ra rc (d7 n) X w')):=by
 have fq:w.heap.size≤w.heap.size:=aI _
 have cg:=hxa
 obtain⟨msa,_,_⟩:=hxa
 refine B8 Tryz.func31 G (n:=18) G (bq G) (args:= [.agg #[AI n,AI cc,By Aa na capa]]) (bH [(0,.agg #[AI n,AI cc,By Aa na capa])] ⟨rfl,Ht⟩ (sr (bx [AI n,AI cc,By Aa na capa] aB G G G fun g1 _ ac _ _ bo=>(mv 1 G (aE (sr (pf g1 0 G (aK G G (aQ bV ac G) (GR G G G (by omega) (by decide) fun g6 _ az cx aq=>?_)))))))))
 have dm:w.heap.size≤g6:=by rw [←az];exact bo.size
 have dc:g1<g6:=by rw [←az];exact ac.lt
 clear az
 have bg:=bo.trans aq
 have ai:=(cx.block _ G).2
 refine dM G (z:= By none 0 0) (vs:= [S0]) (fun _=>by kernel_rfl) G fun H _ nb=>?_
 have da:g6<H:=by rw [←nb.at_];exact ai
 have cj:=nb.bk
 have ce:w.heap.size≤H:=by rw [←nb.at_];exact bg.size
 have fo:g1<H:=by rw [←nb.at_];exact (ac.ext aq).lt
 have ao:=nb.ext
 clear nb
 have df:=bg.trans ao
 refine jC G G G vY G cj (bq G) G [By (some ⟨g6,0,none⟩) 0 n] G fun ab ae aw _=>?_
 have ba:=aw.ext df ce
 refine aE (aH (sr (lo bS ((ac.ext (aq.t ao)).vN aw) [AI n,AI cc,By Aa na capa] G G G ?_)))
 have aa:=ae
 refine cl (vs:= [.agg #[AI n,AI cc,By Aa na capa]]) ba (E2 (cg.ext ba) hn hcc hna hKB) G (by kernel_rfl) fun _ U eh cm cu=>?_
 obtain⟨gm,Am,capm,rfl,_,cd,av⟩:=eh
 refine aE (bB ?_)
 have co:=(ae.ext cm)
 have bu:=((((cx.ext ao).upd aw (fun a ha=>by have e9:=congrArg Addr.block (iL ha);simp only at e9;omega)).ext cm)).mono (base':=w.heap.size) (by omega)
 have dy:H<ab.heap.size:=(by have:=aa.lt;omega)
 have C:LhC w.heap.size U.heap.size ab.heap.size H gm Am:=⟨by omega,by omega,dy,co.lt,cd.lt,fun p o=>(av.block p o).2,cu.size⟩
 have S0:LhS w n cc K U.heap.size ab.heap.size gm Am capm xs U:=⟨cu,aI _,by rw [←hna];exact cd,by rw [←hna];exact av⟩
 refine bH [(3,a9 H 0),(10,.func (.func 64) #[] #[a9 gm 0])] ⟨rfl,rfl,Ht⟩ ?_
 refine ET (A:=Am) (cap:=capm) (gm:=gm) (xs:=xs) (X:=X) (K:=K) (r:=n) (c:=cc) (p0:=11) (p1:=12) G G (by decide) (by decide) hn hcc hKB hX (RF w n cc K U.heap.size ab.heap.size w.heap.size H gm Am capm xs X) ?_ ?_ ?_ ?_ ?_
  (fun v0 v1=>(5,v1)::(12,v1)::(11,v0):: [(3,a9 H 0),(10,.func (.func 64) #[] #[a9 gm 0])]) ?_ ?_ ?_
 ·rintro k b W ⟨_,S,_⟩
  exact⟨S.m,S.l.zf0⟩
 ·rintro k b V W ⟨hb,S,RA,rcap,ra,rc,R⟩ x
  exact⟨hb,S.ex x,RA,rcap,ra,rc,R.f.ext x,R.R.ext x,R.C.ext x,R.Rr,R.Rb,R.rb,R.Rl,R.Rm,R.Ra⟩
 ·rintro k b W ⟨hb,S,RA,rcap,ra,rc,R⟩
  exact⟨S.sz,S,RA,rcap,ra,rc,R.f,R.R,R.C,R.Rr,fun p o=>(R.R.block p o).2,fun r hr p o=>(R.C.lt r hr p o).2,R.Rl,R.Rm,R.Ra⟩
 ·rintro k b V W ⟨hb,S,RA,rcap,ra,rc,R⟩ x ah
  exact⟨hb,S.nc x ah C.BL,RA,rcap,ra,rc,R.f.nc x,R.R.nc x,R.C.nc x,R.Rr,R.Rb,R.rb,R.Rl,R.Rm,R.Ra⟩
 ·exact⟨aI _,S0,some ⟨g6,0,none⟩,n,fun _=>none,fun _=>0,co,bu,⟨fun r hr=>(by omega),fun r s hr=>(by omega)⟩,fun r hr=>(by omega),fun p o=>(bu.block p o).2,fun r hr=>(by omega),fun p o=>(by have e9:=congrArg Addr.block (iL o);simp only at e9;omega),fun p o=>(by have e9:=congrArg Addr.block (iL o);simp only at e9;omega),fun p q o I=>(by have e9:=congrArg Addr.block (iL o);simp only at e9;have:=(av.block q I).1;omega)⟩
 ·intro lp v0 v1 Kp W hk
  refine u6 (Wd.round _ _ _) (oG (fun⟨_,_,h⟩=>h)) G (mv 1 G (aS ?_))
  exact hk
 ·rintro lp k b W LA lc zs _ hk ⟨dh,S,RA,rcap,ra,rc,R⟩ hb hz dd dn hQ
  refine F2 (u6 (Wd.round _ _ _) (yV dn) G (aK G G (aQ cG R.f G) (mv 1 G (jX G G (k:=1) (e:=22) [By LA cc lc] (fun _=>by kernel_rfl) fun g w1 nb=>?_))))
  have e1:=nb.ext
  have ho:=R.R.ext e1
  have du:w.heap.size≤w1.heap.size:=a7 C.BL (a7 S.sz e1.size)
  refine vP (z:= By none 0 0) (s:=1) (bytes:=24) (e:=22) G G G Tryz.underlying54 DE G ho du [By LA cc lc] G (wS _ nb.bk) G fun A1 c1 w2 dq cz=>?_
  have hu:UpdO RA w1 w2:=cz.elim (fun h=>h.2.2) (fun h=>UO.ext (UO.refl _ _) h.1)
  have J:=(R.f.ext e1).updO hu R.Rl
  refine jC G G G vY G J (bq G) G [By A1 (k+1) c1] G fun _ ee u3 _=>(aS (cC ?_))
  have S3:=((S.ex e1).updR (aI _) ho R.Rm R.Ra hu).updF C J u3
  have bv:=((hz.ext e1).updQ ho hu (fun p q o I e=>by have:=R.Rb p o;have:=(hz.block q I).1;omega)).updT J u3 (fun p o e=>by have:=(hz.block p o).1;have:=C.fL;omega)
  have hc1':(A1=RA∧c1=rcap)∨∀p,A1=some p→W.heap.size≤p.block:=cz.imp (fun h=>⟨h.1,h.2.1⟩) (fun h p o=>a7 e1.size (h.2 p o))
  have dw:∀p,A1=some p→p.block≠H:=ApR.kept hc1' R.f.lt R.Rl
  have ep:∀p,A1=some p→p.block≠gm:=ApR.kept hc1' S.m.lt R.Rm
  have ak:=dq.updT J (by decide) u3
  have cf:=((R.C.ext e1).updQ ho hu R.Rr).updT J u3 (fun r hr p o e=>by have:=(R.C.lt r hr p o).1;have:=C.fL;omega)
  rw [C3] at ak
  refine fun a ha=>hQ _ _ (e1.kf.trans ((hu.kf ho).trans (u3.kf J))) ⟨S3.sz,S3,_,_,_,_,ee,ak,⟨fun r hr=>?_,fun r s hr _ eg p q o I=>?_⟩,fun r hr p q o I=>?_,fun p o=>(ak.block p o).2,fun r hr p o=>?_,dw,ep,fun p q o I=>?_⟩
  ·by_cases e:r=k
   ·subst e
    simp only
    exact⟨zs,bv.mono hKB (aI _) dh,dd⟩
   ·simp only [if_neg e]
    exact cf.row r (by omega)
  ·split at o
   ·split at I
    ·omega
    ·have:=(hz.block p o).1;have:=R.rb s (by omega) q I;omega
   ·split at I
    ·have:=(hz.block q I).1;have:=R.rb r (by omega) p o;omega
    ·exact R.C.dis r s (by omega) (by omega) eg p q o I
  ·rcases hc1' with⟨rfl,rfl⟩ | h
   ·split at I
    ·have:=R.Rb p o;have:=(hz.block q I).1;omega
    ·exact R.Rr r (by omega) p q o I
   ·split at I
    ·have:=h p o;have:=(hz.block q I).2;omega
    ·have:=h p o;have:=(R.C.lt r (by omega) q I).2;omega
  ·split at o
   ·exact (bv.block p o).2
   ·exact (cf.lt r (by omega) p o).2
  ·rcases hc1' with⟨rfl,rfl⟩ | h
   ·exact R.Ra p q o I
   ·have:=h p o;have:=C.am q I;have:=S.sz;omega
 ·rintro D b W hD ⟨hb,S,RA,rcap,ra,rc,R⟩ hK a ha
  have hm:w.heap.size≤U.heap.size:=C.BL
  have au:=Nc.put (.deferred none) hK rfl
  have ah:=rE hD W (jW.1 hK).1 (.deferred none)
  have S9:=S.nc au ah hm
  have R9:=R.R.nc au
  have C9:=(R.C.nc au).low hm
  show Code.wp _ (Code.seq _ _) _ _ _
  refine wp_seq ((wpIn_wide (n:=9)).1 (wpIn_region_lit ?_))
  have ea:({a with defers:= [{target:= .collected D,args:= #[]}]}:Act)=gV [{target:= .collected D,args:= #[]}] a:=by
   unfold gV;rw [ha.nod];rfl
  rw [ea]
  refine tN _ _ _ _ (vQ (n:=18) (l:= [(3,a9 H 0),(10,.func (.func 64) #[] #[a9 gm 0])]) ?_ G ?_ a ha)
  ·rintro⟨_,_,h⟩
   obtain⟨_,h,_⟩:=h
   cases h
  refine aK G G (aQ cG R.f G) (mv 1 G (aS ?_))
  intro a2 cn
  show Code.wp _ .ret _ _ _
  refine wp_ret ?_
  show LeavesInM _ _ _ _ _ _ (a2.defers++ [{target:= .collected D,args:= #[]}]) _ _
  rw [cn.nod]
  show LeavesInM _ _ _ _ _ _ [{target:= .collected D,args:= #[]}] _ _
  unfold LeavesInM LeavesInM
  refine⟨by simp,.inl ⟨_,_,rfl,run_takeDeferred hK,_,results_tmp G _ _ _,?_⟩⟩
  refine⟨_,congrArg _ (cn.val 2 _ G),?_,S9.ext⟩
  exact⟨RA,rcap,ra,rc,rfl,⟨R.Rr⟩,R9,C9,(Inv.start (n:=n) (X:=X) (Z:=X) (fun _ _ _ _=>rfl)).per⟩
theorem O9 {lr:Nat}(hb:b≤w.heap.size)(hlb:lb≤w.heap.size){ra:Nat→Option a6}{rc:Nat→Nat}(hL:Lns lr n cc RA rcap ra rc ps Z w)(hn:n≤64)(hcc:cc≤64)(hZ:∀a b,a<n→b<cc→ln (pr Z ps a b)≤17179869184):aR aJ 32 #[By RA n rcap,AI cc] w (Gv w (MQ (n:Int) (cc:Int) (LQ none 17179869184 b lb (n*cc) (En n cc (pr Z ps))))):=by
 have ix:=iJ hn hcc
 have il:=hL.R.rv.le
 refine bQ Tryz.func32 G (n:=41) G (bq G) (args:= [By RA n rcap,AI cc]) (bH [(0,By RA n rcap),(1,AI cc)] ⟨rfl,rfl,Ht⟩ (sr (al [I0,I0,S0] aB (fun _=>by kernel_rfl) G fun g1 _ ep gc _ H=>(aE (sr (mv 1 G (pu (v:= AI n) G (mv 2 G (pu (v:= AI n) G (mv 1 G (bC G G G ((n*cc:Nat):Int) (kE (a:=n) (b:=cc) G G) (AQ (k:=n*cc) none 17179869184 w.heap.size G G G (by omega) (by decide) fun J v7 ew cd dw=>?_))))))))))))
 have ja:g1<J:=by rw [←ew];exact ep.lt
 have df:J≤v7.heap.size:=by have:=(cd.block _ G).2;exact Nat.le_of_lt this
 have dm:w.heap.size≤J:=by rw [←ew];exact H.size
 clear ew
 have au:=H.trans dw
 have dl:=cd.block
 refine pu (v:= .agg #[AI n,AI cc,By (some ⟨J,0,none⟩) 0 (n*cc)]) G (dM G (z:= .agg #[I0,I0,S0]) (vs:= [I0,I0,S0]) (fun _=>by kernel_rfl) G fun o _ nb=>?_)
 have cg:=nb.bk
 have cf:w.heap.size≤o:=by rw [←nb.at_];exact au.size
 have iv:g1<o:=by rw [←nb.at_];exact (ep.ext dw).lt
 have cu:∀p:a6,(some ⟨J,0,none⟩)=some p→p.block≠o:=fun p hp=>by have:=(cd).block p hp;have:=nb.at_;omega
 have bv:=nb.ext
 clear nb
 have bh:=au.trans bv
 refine so bS cg [AI n,AI cc,By (some ⟨J,0,none⟩) 0 (n*cc)] bh cf G G G G fun gy fg cz aa=>(aE (aH (sr (mv 1 G (pu (v:= AI n) G (mv 1 G (aE (bB ?_))))))))
 refine d6 (T:=a0×Nat×Nat×Option a6×Nat×List Int) (fun⟨wr,i,q,LA,lc,zs⟩=> [(0,By RA n rcap),(1,AI cc),(4,a9 g1 0),(5,a9 o 0),(10,By RA n rcap),(11,AI n),(12,AI cc),(13,By RA n rcap),(14,AI n),(15,AI cc),(16,AI ((n*cc:Nat):Int)),(17,By (some ⟨J,0,none⟩) 0 (n*cc)),(18,.agg #[AI n,AI cc,By (some ⟨J,0,none⟩) 0 (n*cc)]),(19,By RA n rcap),(20,AI n),(21,AI i)]) (fun⟨wr,i,q,LA,lc,zs⟩=>wr) (fun⟨wr,i,q,LA,lc,zs⟩=>(Ext w wr)∧(i≤n)∧(Bk wr g1 24 [I0,I0,S0])∧(Bk wr o 24 [AI n,AI cc,By LA q lc])∧(J≤wr.heap.size)∧(Lz none 17179869184 w.heap.size wr J LA q lc zs)∧(∀p:a6,LA=some p→p.block≠g1)∧(∀p:a6,LA=some p→p.block≠o)∧(q=i*cc)∧(Bld cc q (pr Z ps) zs)) (fun⟨wr,i,q,LA,lc,zs⟩=>n-i)
  (⟨gy,0,0,(some ⟨J,0,none⟩),(n*cc),[]⟩:a0×Nat×Nat×Option a6×Nat×List Int) ⟨aa,(by omega),((ep.ext (dw.t bv)).vN cz),fg,(a7 (a7 df bv.size) cz.by_.size),((cd.ext bv).updT cg cz cu),(show∀p:a6,(some ⟨J,0,none⟩)=some p→p.block≠g1 from fun p hp=>by have:=dl p hp;omega),cu,(Nat.zero_mul cc).symm,(fun k h=>absurd h (Nat.not_lt_zero k))⟩ G ⟨rfl,rfl,rfl,rfl,rfl,rfl,rfl,rfl,rfl,rfl,rfl,rfl,rfl,rfl,rfl,rfl,Ht⟩ ?_
 rintro⟨wr,i,q,LA,lc,zs⟩ ⟨H,_,b_g1,b_g13,l_LAb,l_LA,l_LA_g1,l_LA_g13,hq,hz⟩
 refine d4 [(0,By RA n rcap),(1,AI cc),(4,a9 g1 0),(5,a9 o 0),(10,By RA n rcap),(11,AI n),(12,AI cc),(13,By RA n rcap),(14,AI n),(15,AI cc),(16,AI ((n*cc:Nat):Int)),(17,By (some ⟨J,0,none⟩) 0 (n*cc)),(18,.agg #[AI n,AI cc,By (some ⟨J,0,none⟩) 0 (n*cc)]),(19,By RA n rcap),(20,AI n),(21,AI i)] wr G ⟨rfl,rfl,rfl,rfl,rfl,rfl,rfl,rfl,rfl,rfl,rfl,rfl,rfl,rfl,rfl,rfl,Ht⟩ ?_
 have ii:=l_LA.block
 refine aH ?_
 by_cases iw:i<n
 ·refine aL (aN G G G true (dB (a:=i) (b:=n) G G) (aE (aH (bJ G (bA (aM (aH (bB (sr ?_)))))))))
  obtain⟨ba,em,du⟩:=hL.R.rowAt (i:=i) (by omega)
  refine aX G G G Tryz.underlying54 cV i G ba em (aK G G (cP cD (H.cell du)) (mv 1 G (aE (sr (mv 1 G (pu (v:= AI cc) G (mv 1 G (aE (bB ?_)))))))))
  refine d6 (T:=a0×Nat×Nat×Option a6×Nat×List Int) (fun⟨wi,j,p,LB,ld,ys⟩=> [(0,By RA n rcap),(1,AI cc),(4,a9 g1 0),(5,a9 o 0),(7,By (ra (ps.getD i 0)) cc (rc (ps.getD i 0))),(10,By RA n rcap),(11,AI n),(12,AI cc),(13,By RA n rcap),(14,AI n),(15,AI cc),(16,AI ((n*cc:Nat):Int)),(17,By (some ⟨J,0,none⟩) 0 (n*cc)),(18,.agg #[AI n,AI cc,By (some ⟨J,0,none⟩) 0 (n*cc)]),(19,By RA n rcap),(20,AI n),(21,AI i),(22,BY),(23,.pointer (some ba)),(24,By (ra (ps.getD i 0)) cc (rc (ps.getD i 0))),(25,By (ra (ps.getD i 0)) cc (rc (ps.getD i 0))),(26,AI cc),(27,AI j)]) (fun⟨wi,j,p,LB,ld,ys⟩=>wi) (fun⟨wi,j,p,LB,ld,ys⟩=>(Ext w wi)∧(j≤cc)∧(Bk wi g1 24 [I0,I0,S0])∧(Bk wi o 24 [AI n,AI cc,By LB p ld])∧(J≤wi.heap.size)∧(Lz none 17179869184 w.heap.size wi J LB p ld ys)∧(∀p:a6,LB=some p→p.block≠g1)∧(∀p:a6,LB=some p→p.block≠o)∧(p=i*cc+j)∧(Bld cc p (pr Z ps) ys)) (fun⟨wi,j,p,LB,ld,ys⟩=>cc-j)
   (⟨wr,0,q,LA,lc,zs⟩:a0×Nat×Nat×Option a6×Nat×List Int) ⟨H,(by omega),b_g1,b_g13,l_LAb,l_LA,l_LA_g1,l_LA_g13,(by omega),hz⟩ G ⟨rfl,rfl,rfl,rfl,rfl,rfl,rfl,rfl,rfl,rfl,rfl,rfl,rfl,rfl,rfl,rfl,rfl,rfl,rfl,rfl,rfl,rfl,rfl,Ht⟩ ?_
  rintro⟨wi,j,p,LB,ld,ys⟩ ⟨H,_,b_g1,b_g13,l_LBb,l_LB,l_LB_g1,l_LB_g13,ij,fd⟩
  refine d4 [(0,By RA n rcap),(1,AI cc),(4,a9 g1 0),(5,a9 o 0),(7,By (ra (ps.getD i 0)) cc (rc (ps.getD i 0))),(10,By RA n rcap),(11,AI n),(12,AI cc),(13,By RA n rcap),(14,AI n),(15,AI cc),(16,AI ((n*cc:Nat):Int)),(17,By (some ⟨J,0,none⟩) 0 (n*cc)),(18,.agg #[AI n,AI cc,By (some ⟨J,0,none⟩) 0 (n*cc)]),(19,By RA n rcap),(20,AI n),(21,AI i),(22,BY),(23,.pointer (some ba)),(24,By (ra (ps.getD i 0)) cc (rc (ps.getD i 0))),(25,By (ra (ps.getD i 0)) cc (rc (ps.getD i 0))),(26,AI cc),(27,AI j)] wi G ⟨rfl,rfl,rfl,rfl,rfl,rfl,rfl,rfl,rfl,rfl,rfl,rfl,rfl,rfl,rfl,rfl,rfl,rfl,rfl,rfl,rfl,rfl,rfl,Ht⟩ ?_
  have dd:=l_LB.block
  refine aH ?_
  have iu:=iJ (show i≤64 by omega) hcc
  by_cases ic:j<cc
  ·refine aL (aN G G G true (dB (a:=j) (b:=cc) G G) (aE (aH (bJ G (bA (aM (aH (bB (sr ?_)))))))))
   obtain⟨fo,ao,ai,aq,ar,cx,dc,_,cm⟩:=hL.C.at (hL.per.lt i (by omega)) (show j<cc by omega)
   refine aX G G G bM aG.size j G fo cx (aK G G (dc _ H _ _ aG) (dM G (z:= .agg #[F0,S0]) (vs:= [F0,S0]) (fun _=>by kernel_rfl) G fun bw _ nb=>?_))
   have ah:=nb.bk
   have fe:w.heap.size≤bw:=by rw [←nb.at_];exact H.size
   have iy:o<bw:=by rw [←nb.at_];exact b_g13.lt
   have bc:∀p:a6,LB=some p→p.block≠bw:=fun p hp=>by have:=(l_LB).block p hp;have:=nb.at_;omega
   have I:=nb.ext
   clear nb
   have au:=H.trans I
   refine so aG ah (a4 ao ai aq ar) au fe G G G G fun _ bj U bh=>(aE ?_)
   refine dP cF 5 [] [Is (a9 o 2),Is (By LB p ld),Is (O ao ai aq ar),ZR w.heap.size ((pr Z ps i j)),B1 w.heap.size (pr Z ps i j)] [[],[0],[],[2],[3]] [[],[0],[],[2],[2,3],[0,1,2,3,4],[0,1,2,3,4,5],[0,1,2,3,4,5,6]] rfl
    (aD G G (aA G G ?_) (aD G G (aA G G ?_) (aD G G (aA G G ?_) (aD G G (aA G G ?_) (aD G G (aA G G ?_) dF))))) ?_
   ·exact fun _ _=>a8 (pf o 2 G (aC G aB G))
   ·exact fun _ gg=>dk G G (a8 (aK G G (aQ cD (((b_g13.ext I).vN U).ext gg) G) (aC G aB G)))
   ·exact fun _ ge=>a8 (lo aG (bj.ext ge) (a4 ao ai aq ar) G G G (aC G aB G))
   ·intro _ fb
    have aa:=bh.trans fb
    refine dk G G (a8 (cl (vs:= [O ao ai aq ar]) aa (nP aa.size (((cm.ext (H.trans I)).updT ah U).ext fb).zi (cm.le (a7 (hZ i j (by omega) (by omega)) (by decide)))) G (by kernel_rfl) fun _ _ gk ig dn=>?_))
    obtain⟨_,_,_,_,rfl,gj⟩:=gk
    exact aC G ig ⟨_,_,_,_,rfl,gj⟩
   ·intro _ ee
    have aa:=bh.trans ee
    refine aT G G fun _ _ ie _ gt=>?_
    obtain⟨ia,ib,gw,gx,rfl,eh⟩:=ie
    have eh:=eh.ext gt
    refine a8 (jX G G (k:=1) (e:=41) (a4 ia ib gw gx) (fun _=>by kernel_rfl) fun eg _ nb=>?_)
    have fh:=nb.bk
    have io:w.heap.size≤eg:=by rw [←nb.at_];exact aa.size
    have iq:bw<eg:=by rw [←nb.at_];exact (bj.ext ee).lt
    have ip:∀p:a6,LB=some p→p.block≠eg:=fun p hp=>by have:=((((l_LB.ext I).updT ah U bc).ext ee)).block p hp;have:=nb.at_;omega
    have dq:=nb.ext
    clear nb
    have dn:=aa.trans dq
    exact aC G dq ⟨_,_,_,_,_,rfl,fh,(eh.ext dq)⟩
   ·intro _ ac
    have aa:=bh.trans ac
    refine dk G G (dk G G (dk G G (aT G G fun _ _ ik _ fk=>?_)))
    obtain⟨_,_,_,_,rfl,cn⟩:=ik
    have cn:=cn.ext fk
    refine aT G G fun _ _ fj _ cj=>?_
    obtain⟨_,fq,fr,fa,ey,rfl,ae,ak⟩:=fj
    have ae:=ae.ext cj
    have ak:=ak.ext cj
    refine a8 ?_
    have bi:=(((l_LB.ext I).updT ah U bc).ext ac)
    obtain⟨_,_⟩:=bi.own
    refine vO (e:=⟨fq,fr,fa,ey⟩) (z:=(pr Z ps i j)) G G G bi (a7 (a7 (a7 l_LBb I.size) U.by_.size) ac.size) ae (bE ak) (ak.le (a7 (hZ i j (by omega) (by omega)) (by decide))) fun ce co fv az ab ag=>?_
    have dn:=ab.ext aa (fun p hp=>by have:=dd p hp;omega)
    have av:J≤fv.heap.size:=a7 (a7 (a7 (a7 l_LBb I.size) U.by_.size) ac.size) ab.size
    have da:=nM ag (((b_g1.ext I).vN U).ext ac).lt l_LB_g1
    have aw:=nM ag (((b_g13.ext I).vN U).ext ac).lt l_LB_g13
    have gn:=nM ag (bj.ext ac).lt bc
    have fx:=az.block
    refine pf o 2 G ?_
    have bg:=((((b_g13.ext I).vN U).ext ac).updO ab l_LB_g13)
    refine jC G G G cV G bg (bq G) G [AI n,AI cc,By ce (p+1) co] G fun ez dy aj _=>?_
    have fy:=aj.ext dn cf
    refine aS (dA (cC (aM (aL (bC G G G ((j+1:Nat):Int) (bW (a:=j) (b:=1) G G) (mv 1 G (aS (cB (⟨ez,j+1,p+1,ce,co,ys++ [(pr Z ps i j)]⟩:a0×Nat×Nat×Option a6×Nat×List Int) ⟨fy,(by omega),(((((b_g1.ext I).vN U).ext ac).updO ab l_LB_g1).vN aj),dy,(a7 av aj.by_.size),(az.updT bg aj aw),da,aw,(by omega),(fd.step ij ic l_LB.len)⟩ (show cc-(j+1)<cc-j by omega) G ⟨rfl,rfl,rfl,rfl,rfl,rfl,rfl,rfl,rfl,rfl,rfl,rfl,rfl,rfl,rfl,rfl,rfl,rfl,rfl,rfl,rfl,rfl,rfl,Ht⟩))))))))
  ·refine aL (aN G G G false (dK (a:=j) (b:=cc) G G) (aE (aH (aY G (cM (cK (cT (cL (cC (aM (aL (bC G G G ((i+1:Nat):Int) (bW (a:=i) (b:=1) G G) (mv 1 G ?_)))))))))))))
   refine aS (cB (⟨wi,i+1,p,LB,ld,ys⟩:a0×Nat×Nat×Option a6×Nat×List Int) ⟨H,(by omega),b_g1,b_g13,l_LBb,l_LB,l_LB_g1,l_LB_g13,(show p=(i+1)*cc by rw [gO];omega),fd⟩ (show n-(i+1)<n-i by omega) G ⟨rfl,rfl,rfl,rfl,rfl,rfl,rfl,rfl,rfl,rfl,rfl,rfl,rfl,rfl,rfl,rfl,Ht⟩)
 ·refine aL (aN G G G false (dK (a:=i) (b:=n) G G) (aE (aH (aY G (cM (cK (cT (cL (aM (sr (lo bS b_g13 [AI n,AI cc,By LA q lc] G G G ?_)))))))))))
  have bo:=b_g1
  refine so bS bo [AI n,AI cc,By LA q lc] H gc G G G G fun _ dh ft au=>(aE (bG (bF [.agg #[AI n,AI cc,By LA q lc]] G ⟨⟨_,rfl,bY bS dh [AI n,AI cc,By LA q lc] G (bq G) rfl⟩,Ht⟩ ?_)))
  have fz:q=n*cc:=by rw [hq,show i=n by omega]
  subst fz
  exact⟨_,rfl,⟨_,rfl,_,_,_,rfl,((l_LA.updT bo ft l_LA_g1)).mono (aI _) hb (a7 hlb dm),hz.en rfl⟩,au⟩
end
section
def ldr:Nat→(Nat→Int)→Nat
 | 0,_=>0
 | c+1,f=>if ldr c f<c then ldr c f else if f c=0 then c+1 else c
theorem tO:∀(c:Nat) (f:Nat→Int),ldr c f≤c∧(∀j,j<ldr c f→f j=0)∧(ldr c f<c→f (ldr c f)≠0)
 | 0,f=>⟨aI _,fun j h=>absurd h (Nat.not_lt_zero j),fun h=>absurd h (Nat.lt_irrefl 0)⟩
 | c+1,f=>by
  obtain⟨h1,h2,h3⟩:=tO c f
  unfold ldr
  by_cases h:ldr c f<c
  ·rw [if_pos h];exact⟨by omega,h2,fun _=>h3 h⟩
  ·rw [if_neg h]
   have e:ldr c f=c:=by omega
   rw [e] at h2
   by_cases o:f c=0
   ·rw [if_pos o]
    refine⟨aI _,fun j hj=>?_,fun h=>absurd h (Nat.lt_irrefl _)⟩
    by_cases ej:j=c
    ·rw [ej];exact o
    ·exact h2 j (by omega)
   ·rw [if_neg o];exact⟨by omega,h2,fun _=>o⟩
theorem oV (c:Nat)(f:Nat→Int):ldr c f≤c:=(tO c f).1
theorem iT {f:Nat→Int}(h:j<ldr c f):f j=0:=(tO c f).2.1 j h
theorem oU {f:Nat→Int}(h:ldr c f<c):f (ldr c f)≠0:=(tO c f).2.2 h
theorem lG {f:Nat→Int}(h:∀j,j<l→f j=0)(hl:l<c)(h0:f l≠0):ldr c f=l:=by
 rcases Nat.lt_trichotomy (ldr c f) l with o | o | o
 ·exact absurd (h _ o) (oU (by omega))
 ·exact o
 ·exact absurd (iT o) h0
theorem DB {f:Nat→Int}(h:∀j,j<c→f j=0):ldr c f=c:=by
 have:=oV c f
 rcases eB (ldr c f) c with o | o
 ·exact absurd (h _ o) (oU o)
 ·omega
theorem xN {f g:Nat→Int}(h:∀j,j<c→f j=g j):ldr c f=ldr c g:=by
 rcases eB (ldr c g) c with o | o
 ·exact lG (fun j hj=>by rw [h j (by omega)];exact iT hj) o (by rw [h _ o];exact oU o)
 ·have:=oV c g
  rw [DB (f:=f) fun j hj=>by rw [h j hj];exact iT (c:=c) (by omega)];omega
theorem xM {f:Nat→Int}(h:∀j,j<l→j<c→f j=0)(hl:l≤c:=by omega):l≤ldr c f:=by
 refine kW fun o=>?_
 exact oU (c:=c) (f:=f) (by omega) (h _ o (by omega))
def Spn (n c:Nat)(Z:Mx)(v:Nat→Int):Prop:=∃x:Nat→Int,∀j,j<c→v j=sm n fun i=>x i*Z i j
section
variable {n m c:Nat}{Z Y:Mx}{u v:Nat→Int}
theorem Spn.congr (h:Spn n c Z v)(e:∀j,j<c→u j=v j):Spn n c Z u:=by
 obtain⟨x,o⟩:=h
 exact⟨x,fun j hj=>by rw [e j hj,o j hj]⟩
theorem Spn.row (hi:i<n):Spn n c Z (Z i):=⟨fun k=>if k=i then 1 else 0,fun j _=>by
 rw [←iP hi (fun k=>Z k j)]
 exact cX fun k _=>by
  simp only
  by_cases h:k=i
  ·rw [if_pos h,if_pos h,Int.one_mul]
  ·rw [if_neg h,if_neg h,Int.zero_mul]⟩
theorem Spn.zero:Spn n c Z fun _=>0:=⟨fun _=>0,fun j _=>by
 rw [cX (g:=fun _=>0) fun i _=>Int.zero_mul _,i0]⟩
theorem Spn.lin (h:Spn n c Z u)(h':Spn n c Z v)(a b:Int):Spn n c Z fun j=>a*u j+b*v j:=by
 obtain⟨x,H⟩:=h
 obtain⟨y,o⟩:=h'
 refine⟨fun i=>a*x i+b*y i,fun j hj=>?_⟩
 rw [cX (g:=fun i=>a*(x i*Z i j)+b*(y i*Z i j)) fun i _=>by grind,kM,jE,jE,←H j hj,←o j hj]
theorem Spn.smul (h:Spn n c Z u)(a:Int):Spn n c Z fun j=>a*u j:=(h.lin h a 0).congr fun j _=>by omega
theorem Spn.sum {x:Nat→Int}(h:∀i,i<k→Spn n c Z (V i)):Spn n c Z fun j=>sm k fun i=>x i*V i j:=by
 induction k with
 | zero=>exact Spn.zero
 | succ k ih=>exact ((ih fun i hi=>h i (by omega)).lin (h k (by omega)) 1 (x k)).congr fun j _=>by simp only [sm];omega
def Sub (n m c:Nat)(Z Y:Mx):Prop:=∀i,i<n→Spn m c Y (Z i)
theorem Spn.trans (h:Spn n c Z v)(s:Sub n m c Z Y):Spn m c Y v:=by
 obtain⟨x,o⟩:=h
 exact (Spn.sum (x:=x) s).congr o
theorem Sub.refl (n c:Nat)(Z:Mx):Sub n n c Z Z:=fun _ hi=>Spn.row hi
theorem Sub.trans (h:Sub n m c Z Y)(k:Sub m l c Y X):Sub n l c Z X:=fun i hi=>(h i hi).trans k
structure Eqv (n m c:Nat)(Z Y:Mx):Prop where
 fw:Sub n m c Z Y
 fro:Sub m n c Y Z
theorem Eqv.refl (n c:Nat)(Z:Mx):Eqv n n c Z Z:=⟨Sub.refl n c Z,Sub.refl n c Z⟩
theorem Eqv.symm (h:Eqv n m c Z Y):Eqv m n c Y Z:=⟨h.fro,h.fw⟩
theorem Eqv.trans (h:Eqv n m c Z Y)(k:Eqv m l c Y X):Eqv n l c Z X:=⟨h.fw.trans k.fw,k.fro.trans h.fro⟩
def Qsp (n c:Nat)(Z:Mx)(v:Nat→Int):Prop:=∃s:Int,s≠0∧Spn n c Z fun j=>s*v j
theorem Spn.q (h:Spn n c Z v):Qsp n c Z v:=⟨1,by decide,h.congr fun j _=>Int.one_mul _⟩
theorem Qsp.congr (h:Qsp n c Z v)(e:∀j,j<c→u j=v j):Qsp n c Z u:=by
 obtain⟨s,H,o⟩:=h
 exact⟨s,H,o.congr fun j hj=>by rw [e j hj]⟩
theorem Qsp.lin (h:Qsp n c Z u)(h':Qsp n c Z v)(a b:Int):Qsp n c Z fun j=>a*u j+b*v j:=by
 obtain⟨s,H,I⟩:=h
 obtain⟨t,J,o⟩:=h'
 exact⟨s*t,Int.mul_ne_zero H J,(I.lin o (t*a) (s*b)).congr fun j _=>by grind⟩
theorem Qsp.zero:Qsp n c Z fun _=>0:=Spn.zero.q
theorem Qsp.sum {x:Nat→Int}(h:∀i,i<k→Qsp n c Z (V i)):Qsp n c Z fun j=>sm k fun i=>x i*V i j:=by
 induction k with
 | zero=>exact Qsp.zero
 | succ k ih=>exact ((ih fun i hi=>h i (by omega)).lin (h k (by omega)) 1 (x k)).congr fun j _=>by simp only [sm];omega
theorem Qsp.of {a:Int}(h:Qsp n c Z fun j=>a*v j)(ha:a≠0):Qsp n c Z v:=by
 obtain⟨s,H,o⟩:=h
 exact⟨s*a,Int.mul_ne_zero H ha,o.congr fun j _=>by grind⟩
theorem Spn.qs (h:Spn n c Z v)(s:∀i,i<n→Qsp m c Y (Z i)):Qsp m c Y v:=by
 obtain⟨x,o⟩:=h
 exact (Qsp.sum (x:=x) s).congr o
theorem Qsp.trans (h:Qsp n c Z v)(s:∀i,i<n→Qsp m c Y (Z i)):Qsp m c Y v:=by
 obtain⟨a,H,o⟩:=h
 exact (o.qs s).of H
end
def fN (i j:Nat)(k:Int)(Z:Mx):Mx:=fun a=>if a=i then fun b=>Z i b+k*Z j b else Z a
def gI (i j:Nat)(x y p q:Int)(Z:Mx):Mx:=fun a=>if a=i then fun b=>x*Z i b+y*Z j b else if a=j then fun b=>p*Z i b+q*Z j b else Z a
def gD (i:Nat)(Z:Mx):Mx:=fun a=>if a=i then fun b=> -Z i b else Z a
def dN (n a:Nat)(Z:Mx):Mx:=fun r=>if r=a then Z n else if a<r∧r≤n then Z (r-1) else Z r
def i6 (d e:Nat)(Z:Mx):Mx:=fun r=>if r=e then Z d else if d≤r∧r<e then Z (r+1) else Z r
def lB (i j:Nat)(Z:Mx):Mx:=fun a=>Z (if a=i then j else if a=j then i else a)
section
variable {n c i j:Nat}{Z:Mx}
theorem jO (i j:Nat)(k:Int)(Z:Mx)(b:Nat):fN i j k Z i b=Z i b+k*Z j b:=by simp [fN]
theorem j0 (j:Nat)(k:Int)(Z:Mx)(h:a≠i):fN i j k Z a=Z a:=if_neg h
theorem FR (hi:i<n)(hj:j<n)(hne:i≠j)(k:Int):Eqv n n c (fN i j k Z) Z:=by
 refine⟨fun a o=>?_,fun a o=>?_⟩
 ·by_cases e:a=i
  ·subst e
   exact ((Spn.row (Z:=Z) o).lin (Spn.row hj) 1 k).congr fun b _=>by rw [jO];omega
  ·rw [j0 j k Z e];exact Spn.row o
 ·by_cases e:a=i
  ·subst e
   refine ((Spn.row (Z:=fN a j k Z) o).lin (Spn.row hj) 1 (-k)).congr fun b _=>?_
   rw [jO,j0 j k Z (fun h=>hne h.symm)]
   have: -k*Z j b= -(k*Z j b):=Int.neg_mul _ _
   omega
  ·have h:=Spn.row (c:=c) (Z:=fN i j k Z) o
   rwa [j0 j k Z e] at h
theorem oP (i j:Nat)(x y p q:Int)(Z:Mx)(b:Nat):gI i j x y p q Z i b=x*Z i b+y*Z j b:=by simp [gI]
theorem oO (h:i≠j)(x y p q:Int)(Z:Mx)(b:Nat):gI i j x y p q Z j b=p*Z i b+q*Z j b:=by unfold gI;rw [if_neg (fun e=>h e.symm),if_pos rfl]
theorem tD (x y p q:Int)(Z:Mx)(h:a≠i)(h':a≠j):gI i j x y p q Z a=Z a:=by unfold gI;rw [if_neg h,if_neg h']
theorem KG (hi:i<n)(hj:j<n)(hne:i≠j){y q:Int}(hd:x*q-y*p=1):Eqv n n c (gI i j x y p q Z) Z:=by
 refine⟨fun a o=>?_,fun a o=>?_⟩
 ·by_cases e:a=i
  ·subst e;exact ((Spn.row (Z:=Z) o).lin (Spn.row hj) x y).congr fun b _=>oP ..
  ·by_cases H:a=j
   ·subst H;exact ((Spn.row (Z:=Z) hi).lin (Spn.row o) p q).congr fun b _=>oO hne ..
   ·rw [tD x y p q Z e H];exact Spn.row o
 ·have J:∀b:Nat,Z i b=q*(x*Z i b+y*Z j b)+ -y*(p*Z i b+q*Z j b):=fun b=>by
   have:(x*q-y*p)*Z i b=Z i b:=by rw [hd,Int.one_mul]
   grind
  have I:∀b:Nat,Z j b= -p*(x*Z i b+y*Z j b)+x*(p*Z i b+q*Z j b):=fun b=>by
   have:(x*q-y*p)*Z j b=Z j b:=by rw [hd,Int.one_mul]
   grind
  by_cases e:a=i
  ·subst e
   exact ((Spn.row (Z:=gI a j x y p q Z) o).lin (Spn.row hj) q (-y)).congr fun b _=>by rw [oP,oO hne];exact J b
  ·by_cases H:a=j
   ·subst H
    exact ((Spn.row (Z:=gI i a x y p q Z) hi).lin (Spn.row o) (-p) x).congr fun b _=>by rw [oP,oO hne];exact I b
   ·have h:=Spn.row (c:=c) (Z:=gI i j x y p q Z) o
    rwa [tD x y p q Z e H] at h
theorem HW (hi:i<n):Eqv n n c (gD i Z) Z:=by
 refine⟨fun a o=>?_,fun a o=>?_⟩
 ·by_cases e:a=i
  ·subst e;exact ((Spn.row (Z:=Z) o).smul (-1)).congr fun b _=>by simp [gD]
  ·unfold gD;rw [if_neg e];exact Spn.row o
 ·by_cases e:a=i
  ·subst e;exact ((Spn.row (Z:=gD a Z) o).smul (-1)).congr fun b _=>by simp [gD]
  ·have h:=Spn.row (c:=c) (Z:=gD i Z) o
   unfold gD at h⊢
   rwa [if_neg e] at h
theorem CD (f g:Nat→Nat)(hf:∀a,a<n→f a<n)(hg:∀a,a<n→g a<n)(h:∀a,a<n→Y a=Z (f a))(h':∀a,a<n→Z a=Y (g a)):Eqv n n c Y Z:=
 ⟨fun a o=>by rw [h a o];exact Spn.row (hf a o),fun a o=>by rw [h' a o];exact Spn.row (hg a o)⟩
theorem KH (ha:a≤i)(hi:i<n):Eqv n n c (dN i a Z) Z:=
 CD (fun r=>if r=a then i else if a<r∧r≤i then r-1 else r) (fun r=>if r=i then a else if a≤r∧r<i then r+1 else r)
  (fun r hr=>by split <;> (try split) <;> omega) (fun r hr=>by split <;> (try split) <;> omega)
  (fun r hr=>by unfold dN;split <;> (try split) <;> rfl)
  (fun r hr=>by
   by_cases h:r=i
   ·subst h;rw [if_pos rfl];unfold dN;rw [if_pos rfl]
   ·rw [if_neg h]
    by_cases o:a≤r∧r<i
    ·rw [if_pos o];unfold dN;rw [if_neg (by omega),if_pos (by omega)];rfl
    ·rw [if_neg o];unfold dN
     by_cases H:r=a
     ·omega
     ·rw [if_neg H,if_neg (by omega)])
end
structure Ech (c n:Nat)(Z:Mx):Prop where
 lt:∀i,i<n→ldr c (Z i)<c
 up:∀i k,i<k→k<n→ldr c (Z i)<ldr c (Z k)
 pos:∀i,i<n→0<Z i (ldr c (Z i))
structure Hf (c n:Nat)(Z:Mx):Prop extends Ech c n Z where
 red:∀i k,i<k→k<n→0≤Z i (ldr c (Z k))∧Z i (ldr c (Z k))<Z k (ldr c (Z k))
section
variable {c n:Nat}{Z:Mx}
theorem Ech.low (h:Ech c n Z)(hik:i<k)(hk:k<n)(hj:j≤ldr c (Z i)):Z k j=0:=iT (c:=c) (by have:=h.up i k hik hk;omega)
theorem Ech.lead (h:Ech c n Z){x v:Nat→Int}(hv:∀j,j<c→v j=sm n fun i=>x i*Z i j)(hi:i<n)(h0:∀k,k<i→x k=0):(∀j,j<ldr c (Z i)→v j=0)∧v (ldr c (Z i))=x i*Z i (ldr c (Z i)):=by
 have hl:=h.lt i hi
 refine⟨fun j hj=>?_,?_⟩
 ·rw [hv j (by omega),←i0 n]
  refine cX fun k o=>?_
  rcases Nat.lt_trichotomy k i with e | e | e
  ·rw [h0 k e,Int.zero_mul]
  ·subst e;rw [iT hj,Int.mul_zero]
  ·rw [h.low e o (by omega),Int.mul_zero]
 ·rw [hv _ hl,←iP hi (fun k=>x k*Z k (ldr c (Z i)))]
  refine cX fun k o=>?_
  rcases Nat.lt_trichotomy k i with e | e | e
  ·rw [if_neg (by omega),h0 k e,Int.zero_mul]
  ·rw [if_pos e]
  ·rw [if_neg (by omega),h.low e o (aI _),Int.mul_zero]
theorem OR (n:Nat)(x:Nat→Int):(∀k,k<n→x k=0)∨∃i,i<n∧x i≠0∧∀k,k<i→x k=0:=by
 induction n with
 | zero=>exact bE fun k h=>absurd h (Nat.not_lt_zero k)
 | succ n ih=>
  rcases ih with h | ⟨i,hi,h1,h2⟩
  ·by_cases e:x n=0
   ·exact bE fun k hk=>if hn:k=n then hn▸e else h k (by omega)
   ·exact bK ⟨n,by omega,e,h⟩
  ·exact bK ⟨i,by omega,h1,h2⟩
theorem Ech.begins (h:Ech c n Z){v:Nat→Int}(hv:Spn n c Z v):(∀j,j<c→v j=0)∨∃i y,i<n∧y≠0∧(∀j,j<ldr c (Z i)→v j=0)∧v (ldr c (Z i))=y*Z i (ldr c (Z i)):=by
 obtain⟨x,o⟩:=hv
 rcases OR n x with h0 | ⟨i,hi,U,I⟩
 ·refine bE fun j hj=>?_
  rw [o j hj,←i0 n]
  exact cX fun k H=>by rw [h0 k H,Int.zero_mul]
 ·obtain⟨h3,J⟩:=h.lead o hi I
  exact bK ⟨i,x i,hi,U,h3,J⟩
theorem Ech.at_ (h:Ech c n Z){v:Nat→Int}(hv:Spn n c Z v)(hl:ldr c v<c):∃i y,i<n∧y≠0∧ldr c v=ldr c (Z i)∧v (ldr c v)=y*Z i (ldr c (Z i)):=by
 rcases h.begins hv with J | ⟨i,y,hi,H,I,o⟩
 ·exact absurd (J _ hl) (oU hl)
 ·have U:=h.pos i hi
  have e:ldr c v=ldr c (Z i):=lG I (h.lt i hi) (by rw [o];exact Int.mul_ne_zero H (by omega))
  exact⟨i,y,hi,H,e,by rw [e];exact o⟩
theorem xA {f:Nat→Nat}(h1:∀i,i<d→f i<d)(h2:∀i k,i<k→k<d→f i<f k):∀i,i<d→f i=i:=by
 have lo:∀i,i<d→i≤f i:=by
  intro i
  induction i with
  | zero=>intro _;omega
  | succ i ih=>intro h;have:=ih (by omega);have:=h2 i (i+1) (by omega) h;omega
 have hi:∀t i,i+t+1=d→f i≤i:=by
  intro t
  induction t with
  | zero=>intro i h;have:=h1 i (by omega);omega
  | succ t ih=>intro i h;have:=ih (i+1) (by omega);have:=h2 i (i+1) (by omega) (by omega);omega
 intro i h
 have:=lo i h
 have:=hi (d-1-i) i (by omega)
 omega
theorem tI {f:Nat→Nat}(h1:∀i,i<d→f i<m)(h2:∀i k,i<k→k<d→f i<f k):d≤m:=by
 refine kW fun hlt=>?_
 have lo:∀i,i<d→i≤f i:=by
  intro i
  induction i with
  | zero=>intro _;omega
  | succ i ih=>intro h;have:=ih (by omega);have:=h2 i (i+1) (by omega) h;omega
 have:=lo m hlt
 have:=h1 m hlt
 omega
theorem Ech.map (h:Ech c n Z)(h':Ech c m Y)(s:Sub n m c Z Y):∃f:Nat→Nat,(∀i,i<n→f i<m∧ldr c (Z i)=ldr c (Y (f i))∧∃y,y≠0∧Z i (ldr c (Z i))=y*Y (f i) (ldr c (Z i)))∧∀i k,i<k→k<n→f i<f k:=by
 have key:∀i,∃k,i<n→k<m∧ldr c (Z i)=ldr c (Y k)∧∃y,y≠0∧Z i (ldr c (Z i))=y*Y k (ldr c (Z i)):=fun i=>by
  by_cases hi:i<n
  ·obtain⟨k,y,o,hy,H,I⟩:=h'.at_ (s i hi) (h.lt i hi)
   exact⟨k,fun _=>⟨o,H,y,hy,by rw [I,H]⟩⟩
  ·exact⟨0,fun hh=>absurd hh hi⟩
 obtain⟨f,hf⟩:=Classical.axiomOfChoice key
 refine⟨f,hf,fun i k J o=>?_⟩
 have H:=(hf i (by omega)).2.1
 have I:=(hf k o).2.1
 have U:=h.up i k J o
 rw [H,I] at U
 rcases Nat.lt_trichotomy (f i) (f k) with e | e | e
 ·exact e
 ·rw [e] at U;omega
 ·have:=h'.up (f k) (f i) e (hf i (by omega)).1;omega
theorem Hf.uniq (h:Hf c n Z)(h':Hf c m Y)(e:Eqv n m c Z Y):n=m∧∀i,i<n→∀j,j<c→Z i j=Y i j:=by
 obtain⟨f,hf,fm⟩:=h.toEch.map h'.toEch e.fw
 obtain⟨g,hg,gm⟩:=h'.toEch.map h.toEch e.fro
 obtain rfl:n=m:=Nat.le_antisymm (tI (fun i hi=>(hf i hi).1) fm) (tI (fun i hi=>(hg i hi).1) gm)
 have fi:=xA (fun i hi=>(hf i hi).1) fm
 have gi:=xA (fun i hi=>(hg i hi).1) gm
 have hl:∀i,i<n→ldr c (Z i)=ldr c (Y i):=fun i hi=>by have:=(hf i hi).2.1;rwa [fi i hi] at this
 have hp:∀i,i<n→Z i (ldr c (Z i))=Y i (ldr c (Z i)):=fun i hi=>by
  obtain⟨y,hy,U⟩:=(hf i hi).2.2
  obtain⟨z,_,I⟩:=(hg i hi).2.2
  rw [fi i hi] at U
  rw [gi i hi,←hl i hi] at I
  have p1:=h.pos i hi
  have p2:=h'.pos i hi
  rw [←hl i hi] at p2
  generalize Z i (ldr c (Z i))=a at*
  generalize Y i (ldr c (Z i))=b at*
  have h3:a∣b:=⟨z,by rw [I,Int.mul_comm]⟩
  have h4:b∣a:=⟨y,by rw [U,Int.mul_comm]⟩
  have h5:=Int.le_of_dvd p2 h3
  have h6:=Int.le_of_dvd p1 h4
  omega
 refine⟨rfl,fun i hi=>?_⟩
 have hd:Spn n c Y fun j=>1*Z i j+ -1*Y i j:=(e.fw i hi).lin (Spn.row hi) 1 (-1)
 rcases h'.toEch.begins hd with h0 | ⟨k,y,H,hy,U,I⟩
 ·intro j hj;have:=h0 j hj;omega
 ·exfalso
  have p:=h'.pos k H
  rw [←hl k H] at U I p
  have J:1*Z i (ldr c (Z k))+ -1*Y i (ldr c (Z k))≠0:=by rw [I];exact Int.mul_ne_zero hy (by omega)
  rcases Nat.lt_trichotomy k i with o | o | o
  ·have e1:Z i (ldr c (Z k))=0:=h.toEch.low o hi (aI _)
   have e2:Y i (ldr c (Z k))=0:=by rw [hl k H];exact h'.toEch.low o hi (aI _)
   rw [e1,e2] at J;exact J rfl
  ·subst o
   have:=hp k H
   omega
  ·obtain⟨_,_⟩:=h.red i k o H
   obtain⟨r3,r4⟩:=h'.red i k o H
   rw [←hl k H] at r3 r4
   have:=hp k H
   have h5:(Y k (ldr c (Z k)))∣(1*Z i (ldr c (Z k))+ -1*Y i (ldr c (Z k))):=⟨y,by rw [I,Int.mul_comm]⟩
   have h6:=Int.natAbs_dvd_natAbs.2 h5
   have h7:=Nat.le_of_dvd (by omega) h6
   omega
end
theorem yB:∀(n:Nat) (A:Mx),(∀i j,j<i→i<n→A i j=0)→(∀i,i<n→A i i≠0)→dt n A≠0∧∀i,i<n→A i i∣dt n A
 | 0,A,_,_=>⟨(by decide:(1:Int)≠0),fun i h=>absurd h (Nat.not_lt_zero i)⟩
 | n+1,A,h,h0=>by
  have e:dt (n+1) A=A 0 0*dt n (mi A 0):=by
   have H:dt (n+1) A=sm (n+1) fun i=>pm i*(A i 0*dt n (mi A i)):=rfl
   rw [H,sV,←Int.add_zero (A 0 0*dt n (mi A 0))]
   congr 1
   ·simp [pm]
   ·rw [←i0 n]
    exact cX fun i hi=>by rw [h (i+1) 0 (by omega) (by omega)];simp
  have o:∀r s,mi A 0 r s=A (r+1) (s+1):=fun r s=>rfl
  obtain⟨J,I⟩:=yB n (mi A 0) (fun i j _ hi=>by rw [o];exact h _ _ (by omega) (by omega)) (fun i hi=>by rw [o];exact h0 _ (by omega))
  rw [e]
  refine⟨Int.mul_ne_zero (h0 0 (by omega)) J,fun i hi=>?_⟩
  cases i with
  | zero=>exact Int.dvd_mul_right _ _
  | succ i=>exact Int.dvd_mul_of_dvd_right (by have:=I i (by omega);rwa [o] at this)
section
variable {c d:Nat}{Z B:Mx}
def mnr (c d:Nat)(Z B:Mx):Int:=dt d fun i j=>B i (ldr c (Z j))
theorem Ech.mnr (h:Ech c d Z)(hq:∀i,i<d→Qsp d c B (Z i)):Go.Proofs.YtnpbbknemflpnaaGreat.mnr c d Z B≠0:=by
 have key:∀i,∃sx:Int×(Nat→Int),i<d→sx.1≠0∧∀j,j<c→sx.1*Z i j=sm d fun k=>sx.2 k*B k j:=fun i=>by
  by_cases hi:i<d
  ·obtain⟨s,I,x,J⟩:=hq i hi
   exact⟨(s,x),fun _=>⟨I,J⟩⟩
  ·exact⟨(0,fun _=>0),fun hh=>absurd hh hi⟩
 obtain⟨f,hf⟩:=Classical.axiomOfChoice key
 have e:dt d (fun i j=>(f i).1*Z i (ldr c (Z j)))=dt d (fun i k=>(f i).2 k)*Go.Proofs.YtnpbbknemflpnaaGreat.mnr c d Z B:=by
  unfold Go.Proofs.YtnpbbknemflpnaaGreat.mnr
  rw [←qY]
  exact fA fun i j hi hj=>(hf i hi).2 _ (h.lt j hj)
 have H:=(yB d (fun i j=>(f i).1*Z i (ldr c (Z j))) (fun i j o hi=>by rw [h.low o hi (aI _),Int.mul_zero]) (fun i hi=>by
  have:=h.pos i hi
  exact Int.mul_ne_zero (hf i hi).1 (by omega))).1
 intro U
 rw [e,U,Int.mul_zero] at H
 exact H rfl
theorem Ech.dvd (h:Ech c d Z)(hs:Sub d d c B Z)(hi:i<d):Z i (ldr c (Z i))∣Go.Proofs.YtnpbbknemflpnaaGreat.mnr c d Z B:=by
 have key:∀i,∃x:Nat→Int,i<d→∀j,j<c→B i j=sm d fun k=>x k*Z k j:=fun i=>by
  by_cases hi:i<d
  ·obtain⟨x,H⟩:=hs i hi
   exact⟨x,fun _=>H⟩
  ·exact⟨fun _=>0,fun hh=>absurd hh hi⟩
 obtain⟨f,hf⟩:=Classical.axiomOfChoice key
 have e:Go.Proofs.YtnpbbknemflpnaaGreat.mnr c d Z B=dt d (fun i k=>f i k)*dt d (fun i j=>Z i (ldr c (Z j))):=by
  unfold Go.Proofs.YtnpbbknemflpnaaGreat.mnr
  rw [←qY]
  exact fA fun i j hi hj=>hf i hi _ (h.lt j hj)
 rw [e]
 refine Int.dvd_mul_of_dvd_right ((yB d (fun i j=>Z i (ldr c (Z j))) (fun i j o hi=>h.low o hi (aI _)) (fun i hi=>?_)).2 i hi)
 have:=h.pos i hi
 omega
def gJ (d:Nat)(B:Mx)(P:Nat→Nat)(q:Nat)(v:Nat→Int):Mx:=fun r s=>if r<d then B r (if s<d then P s else q) else if r<2*d then (if s=r-d then 1 else 0) else v (if s<d then P s else q)
def oD (d:Nat)(B:Mx)(P:Nat→Nat)(q l:Nat):Int:=dt (d+1) fun r s=>if r<d then B r (if s<d then P s else q) else if s=l then 1 else 0
theorem GK (B:Mx)(P:Nat→Nat)(q:Nat)(v:Nat→Int)(hl:l<d):bm (gJ d B P q v) d (d+l) d=oD d B P q l:=by
 refine fA fun r s hr _=>?_
 unfold eM gJ
 by_cases o:r<d
 ·rw [if_pos o,if_pos o,if_pos o]
  by_cases h:s<d
  ·rw [if_pos h,if_pos h]
  ·rw [if_neg h,if_neg h,if_neg (Nat.lt_irrefl d)]
 ·rw [if_neg o,if_neg o,if_neg (by omega),if_pos (by omega)]
  by_cases h:s<d
  ·rw [if_pos h,show d+l-d=l by omega]
  ·rw [if_neg h,if_neg (by omega),if_neg (by omega)]
theorem QK {P:Mx}{s:Int}(hs:s≠0){x:Nat→Int}(h:∀b,b<k∨b=j→s*P i b=sm k fun l=>x l*P l b):bm P k i j=0:=by
 have o:=p8 (k+1)
 have I:dt (k+1) (bI (eM P k i j) k fun b=>sm 1 fun _=>s*eM P k i j k b)=s*bm P k i j:=by
  rw [o.sum (eM P k i j) (by omega) 1 (fun _=>s) (fun _=>eM P k i j k),BJ]
  simp only [sm]
  rw [Int.zero_add];rfl
 have e2:dt (k+1) (bI (eM P k i j) k fun b=>sm 1 fun _=>s*eM P k i j k b)=dt (k+1) (bI (eM P k i j) k fun b=>sm k fun l=>x l*eM P k i j l b):=by
  refine fA fun a b _ hb=>?_
  by_cases ek:a=k
  ·subst ek
   rw [eG,eG]
   simp only [sm]
   rw [Int.zero_add]
   have J:∀r,r<a+1→eM P a i j r b=P (if r<a then r else i) (if b<a then b else j):=fun _ _=>rfl
   rw [J a (by omega),if_neg (Nat.lt_irrefl a)]
   rw [h (if b<a then b else j) (by split <;> omega)]
   exact cX fun l hl=>by rw [J l (by omega),if_pos hl]
  ·rw [eF _ _ _ ek,eF _ _ _ ek]
 have U:dt (k+1) (bI (eM P k i j) k fun b=>sm k fun l=>x l*eM P k i j l b)=0:=by
  rw [o.sum (eM P k i j) (by omega) k x (fun l=>eM P k i j l),←i0 k]
  refine cX fun l hl=>?_
  rw [o.alt (bI (eM P k i j) k (eM P k i j l)) l k hl (by omega) (fun b _=>by rw [eG,eF _ _ _ (by omega)]),Int.mul_zero]
 rw [e2,U] at I
 rcases Int.mul_eq_zero.1 I.symm with H | H
 ·exact absurd H hs
 ·exact H
theorem IG {P:Nat→Nat}(hP:∀l,l<d→P l<c){q:Nat}(hq:q<c){v:Nat→Int}(hv:Qsp d c B v):dt d (fun i j=>B i (P j))*v q= -(sm d fun l=>oD d B P q l*v (P l)):=by
 obtain⟨s,hs,x,hx⟩:=hv
 obtain⟨z,J⟩:=FF (gJ d B P q v) d d
 have h0:bm (gJ d B P q v) d (2*d) d=0:=QK hs (x:=x) fun b hb=>by
  have h:gJ d B P q v (2*d) b=v (if b<d then P b else q):=by
   unfold gJ;rw [if_neg (by omega),if_neg (by omega)]
  have H:s*v (if b<d then P b else q)=sm d fun l=>x l*B l (if b<d then P b else q):=hx _ (by split;(· exact hP _ (by assumption));(· exact hq))
  rw [h,H]
  exact cX fun l hl=>by unfold gJ;rw [if_pos hl]
 have U:dt d (gJ d B P q v)=dt d (fun i j=>B i (P j)):=fA fun i j hi hj=>by
  unfold gJ;rw [if_pos hi,if_pos hj]
 have o:∀l,l<d→z l=oD d B P q l:=fun l hl=>by
  rw [←GK B P q v hl,J (d+l)]
  have h:gJ d B P q v (d+l) d=0:=by
   unfold gJ;rw [if_neg (by omega),if_pos (by omega),if_neg (by omega)]
  have H:(sm d fun k=>z k*gJ d B P q v (d+l) k)=z l:=by
   rw [←iP hl z]
   refine cX fun k _=>?_
   unfold gJ
   rw [if_neg (by omega),if_pos (by omega),show d+l-d=l by omega]
   by_cases e:k=l
   ·rw [if_pos e,if_pos e,Int.mul_one]
   ·rw [if_neg e,if_neg e,Int.mul_zero]
  rw [h,H,Int.mul_zero,Int.zero_add]
 have I:=J (2*d)
 have e3:gJ d B P q v (2*d) d=v q:=by
  unfold gJ;rw [if_neg (by omega),if_neg (by omega),if_neg (Nat.lt_irrefl d)]
 rw [h0,U,e3] at I
 have e4:(sm d fun k=>z k*gJ d B P q v (2*d) k)=sm d fun l=>oD d B P q l*v (P l):=cX fun l hl=>by
  rw [o l hl]
  unfold gJ;rw [if_neg (by omega),if_neg (by omega),if_pos hl]
 rw [e4] at I
 omega
end
def nZ (E:Int→Int→Int×Int):Prop:=∀x y,x*(E x y).1+y*(E x y).2=(Int.gcd x y:Int)
section
variable (E:Int→Int→Int×Int)
def fI (k n j:Nat)(Z:Mx):Mx:=
 if Z n j+ -(Z n j/Z k j)*Z k j=0 then fN n k (-(Z n j/Z k j)) Z
 else gI k n (E (Z k j) (Z n j+ -(Z n j/Z k j)*Z k j)).1 (E (Z k j) (Z n j+ -(Z n j/Z k j)*Z k j)).2
  (-((Z n j+ -(Z n j/Z k j)*Z k j).tdiv (Int.gcd (Z k j) (Z n j+ -(Z n j/Z k j)*Z k j):Int))) ((Z k j).tdiv (Int.gcd (Z k j) (Z n j+ -(Z n j/Z k j)*Z k j):Int)) (fN n k (-(Z n j/Z k j)) Z)
theorem qR (x p:Int):x+ -(x/p)*p=x%p:=by
 have:=Int.mul_ediv_add_emod x p
 rw [Int.neg_mul,Int.mul_comm (x/p)];omega
structure Met (c k n j:Nat)(Z Y:Mx):Prop where
 ne:∀r,r≠k→r≠n→Y r=Z r
 zn:∀b,b≤j→Y n b=0
 zk:∀b,b<j→Y k b=0
 pos:0<Y k j
 eqv:Eqv (n+1) (n+1) c Y Z
 cmb:∃a b:Int,a≠0∧∀q,Y n q=a*Z n q+b*Z k q
theorem KR {E:Int→Int→Int×Int}(hE:nZ E)(hkn:k<n)(hp:0<Z k j)(hk:∀b,b<j→Z k b=0)(hn:∀b,b<j→Z n b=0):Met c k n j Z (fI E k n j Z):=by
 have o:n≠k:=by omega
 have I:=qR (Z n j) (Z k j)
 have e1:=oB (Z n j) (show Z k j≠0 by omega)
 have e2:=Int.emod_lt_of_pos (Z n j) hp
 have ad_eq:Eqv (n+1) (n+1) c (fN n k (-(Z n j/Z k j)) Z) Z:=FR (by omega) (by omega) o _
 unfold fI
 by_cases h0:Z n j+ -(Z n j/Z k j)*Z k j=0
 ·rw [if_pos h0]
  refine⟨fun r h1 h2=>j0 _ _ _ h2,fun b hb=>?_,fun b hb=>by rw [j0 _ _ _ (fun e=>o e.symm)];exact hk b hb,by rw [j0 _ _ _ (fun e=>o e.symm)];exact hp,ad_eq,1,-(Z n j/Z k j),by decide,fun q=>by rw [jO,Int.one_mul]⟩
  rw [jO]
  by_cases e:b=j
  ·subst e;exact h0
  ·rw [hn b (by omega),hk b (by omega),Int.mul_zero,Int.add_zero]
 ·rw [if_neg h0]
  rw [I] at h0⊢
  generalize hq: -(Z n j/Z k j)=q at*
  generalize hv:Z n j%Z k j=v at*
  generalize hu:E (Z k j) v=u
  have hb:=hE (Z k j) v
  rw [hu] at hb
  have hg:(Int.gcd (Z k j) v:Int)≠0:=by
   have:=Int.gcd_pos_of_ne_zero_left v (show Z k j≠0 by omega);omega
  have ga:=Int.mul_tdiv_cancel' (Int.gcd_dvd_left (Z k j) v)
  have gb:=Int.mul_tdiv_cancel' (Int.gcd_dvd_right (Z k j) v)
  have gp:(0:Int)<(Int.gcd (Z k j) v:Int):=by omega
  generalize hgg:(Int.gcd (Z k j) v:Int)=g at*
  generalize haa:(Z k j).tdiv g=a at*
  generalize hbb:v.tdiv g=b at*
  have ae:a≠0:=fun e=>by rw [e,Int.mul_zero] at ga;omega
  have J:u.1*a-u.2* -b=1:=by
   refine Int.eq_of_mul_eq_mul_left hg ?_
   have:g*(u.1*a-u.2* -b)=(g*a)*u.1+(g*b)*u.2:=by grind
   rw [this,ga,gb,hb,Int.mul_one]
  have H:fN n k q Z k=Z k:=j0 _ _ _ (fun e=>o e.symm)
  have U:fN n k q Z n j=v:=by rw [jO,I]
  refine⟨fun r h1 h2=>by rw [tD _ _ _ _ _ h1 h2];exact j0 _ _ _ h2,fun b' hb'=>?_,fun b' hb'=>?_,?_,(KG (by omega) (by omega) (fun e=>o e.symm) J).trans ad_eq,a,-b+a*q,ae,fun r=>?_⟩
  ·rw [oO (fun e=>o e.symm),H]
   by_cases e:b'=j
   ·subst e
    rw [U]
    have:g*(-b*Z k b'+a*v)=0:=by
     have h1:g*(-b*Z k b'+a*v)= -(g*b)*Z k b'+(g*a)*v:=by grind
     rw [h1,ga,gb,Int.neg_mul,Int.mul_comm v];omega
    rcases Int.mul_eq_zero.1 this with h | h
    ·exact absurd h hg
    ·exact h
   ·rw [jO,hn b' (by omega),hk b' (by omega)];simp
  ·rw [oP,H,jO,hn b' hb',hk b' hb'];simp
  ·rw [oP,H,U,Int.mul_comm u.1,Int.mul_comm u.2,hb];exact gp
  ·rw [oO (fun e=>o e.symm),H,jO];grind
def fZ (ld:Nat→Nat)(i:Nat):Nat→Mx→Mx
 | 0,Z=>Z
 | m+1,Z=>fN i (i+1+m) (-(fZ ld i m Z i (ld (i+1+m))/fZ ld i m Z (i+1+m) (ld (i+1+m)))) (fZ ld i m Z)
def iF (ld:Nat→Nat)(n:Nat):Nat→Mx→Mx
 | 0,Z=>Z
 | t+1,Z=>fZ ld (n-1-t) t (iF ld n t Z)
def gE (c n:Nat)(Z:Mx):Mx:=iF (fun k=>ldr c (Z k)) n n Z
theorem qF (ld:Nat→Nat){i a:Nat}(h:a≠i):∀(m:Nat) (Z:Mx),fZ ld i m Z a=Z a
 | 0,_=>rfl
 | m+1,Z=>by rw [fZ,j0 _ _ _ h,qF ld h m Z]
theorem BI (ld:Nat→Nat)(n:Nat)(Z:Mx){k t:Nat}(h:n-t≤k):∀s,t+s≤n→iF ld n (t+s) Z k=iF ld n t Z k
 | 0,_=>rfl
 | s+1,hs=>by
  show fZ ld (n-1-(t+s)) (t+s) (iF ld n (t+s) Z) k=_
  rw [qF ld (by omega),BI ld n Z h s (by omega)]
theorem sS (ld:Nat→Nat){n k:Nat}(Z:Mx)(h:n≤k):∀t,t≤n→iF ld n t Z k=Z k
 | 0,_=>rfl
 | t+1,ht=>by
  show fZ ld (n-1-t) t (iF ld n t Z) k=_
  rw [qF ld (by omega),sS ld Z h t (by omega)]
structure Rrd (c n i m:Nat)(Z Y:Mx):Prop where
 ne:∀a,a≠i→Y a=Z a
 lo:∀b,b≤ldr c (Z i)→Y i b=Z i b
 red:∀k,i<k→k≤i+m→0≤Y i (ldr c (Z k))∧Y i (ldr c (Z k))<Z k (ldr c (Z k))
 eqv:Eqv n n c Y Z
theorem C2 {c n i:Nat}{Z:Mx}(h:Ech c n Z):∀m,i+m<n→Rrd c n i m Z (fZ (fun k=>ldr c (Z k)) i m Z)
 | 0,_=>⟨fun _ _=>rfl,fun _ _=>rfl,fun k h1 h2=>by omega,Eqv.refl n c Z⟩
 | m+1,hm=>by
  have ih:=C2 h m (show i+m<n by omega)
  have U:i+1+m≠i:=by omega
  have o:i+1+m<n:=by omega
  have H:=ih.ne (i+1+m) U
  have J:=h.pos _ o
  rw [fZ]
  generalize fZ (fun k=>ldr c (Z k)) i m Z=Y at*
  rw [H]
  refine⟨fun a I=>by rw [j0 _ _ _ I];exact ih.ne a I,fun b hb=>?_,fun k h1 h2=>?_,(FR (by omega) (by omega) (by omega) _).trans ih.eqv⟩
  ·rw [jO,H,h.low (show i<i+1+m by omega) o hb,Int.mul_zero,Int.add_zero];exact ih.lo b hb
  ·rw [jO,H]
   by_cases e:k=i+1+m
   ·subst e
    rw [qR]
    exact⟨oB _ (by omega),Int.emod_lt_of_pos _ J⟩
   ·rw [h.low (show k<i+1+m by omega) o (aI _),Int.mul_zero,Int.add_zero]
    exact ih.red k h1 (by omega)
structure Std (c n t:Nat)(Z Y:Mx):Prop where
 ech:Ech c n Y
 ld:∀i,i<n→ldr c (Y i)=ldr c (Z i)
 pv:∀i,i<n→Y i (ldr c (Z i))=Z i (ldr c (Z i))
 red:∀i k,n-t≤i→i<k→k<n→0≤Y i (ldr c (Z k))∧Y i (ldr c (Z k))<Z k (ldr c (Z k))
 eqv:Eqv n n c Y Z
theorem vZ {c n:Nat}{Z:Mx}(h:Ech c n Z):∀t,t≤n→Std c n t Z (iF (fun k=>ldr c (Z k)) n t Z)
 | 0,_=>⟨h,fun _ _=>rfl,fun _ _=>rfl,fun i k h1 h2 h3=>by omega,Eqv.refl n c Z⟩
 | t+1,ht=>by
  have ih:=vZ h t (by omega)
  rw [iF]
  generalize iF (fun k=>ldr c (Z k)) n t Z=Y at*
  have e:∀m,n-1-t+m<n→fZ (fun k=>ldr c (Z k)) (n-1-t) m Y=fZ (fun k=>ldr c (Y k)) (n-1-t) m Y:=by
   intro m
   induction m with
   | zero=>intro _;rfl
   | succ m ihm=>intro hm;rw [fZ,fZ,ihm (by omega)];rw [ih.ld _ (show n-1-t+1+m<n by omega)]
  have hr:=C2 (i:=n-1-t) ih.ech t (by omega)
  rw [e t (by omega)]
  generalize fZ (fun k=>ldr c (Y k)) (n-1-t) t Y=X at*
  have hl:∀i,i<n→ldr c (X i)=ldr c (Z i):=fun i hi=>by
   by_cases e2:i=n-1-t
   ·rw [←ih.ld i hi]
    subst e2
    have h1:=ih.ech.lt _ hi
    have h2:=ih.ech.pos _ hi
    refine lG (fun j hj=>?_) h1 ?_
    ·rw [hr.lo j (by omega)];exact iT hj
    ·rw [hr.lo _ (aI _)];omega
   ·rw [hr.ne i e2];exact ih.ld i hi
  have hpv:∀i,i<n→X i (ldr c (Z i))=Z i (ldr c (Z i)):=fun i hi=>by
   by_cases e2:i=n-1-t
   ·rw [←ih.pv i hi]
    subst e2
    exact hr.lo _ (by rw [ih.ld _ hi];exact aI _)
   ·rw [hr.ne i e2];exact ih.pv i hi
  refine⟨⟨fun i hi=>by rw [hl i hi];exact h.lt i hi,fun i k hik hk=>by rw [hl i (by omega),hl k hk];exact h.up i k hik hk,fun i hi=>by rw [hl i hi,hpv i hi];exact h.pos i hi⟩,hl,hpv,fun i k h1 h2 h3=>?_,hr.eqv.trans ih.eqv⟩
  by_cases e2:i=n-1-t
  ·subst e2
   have h4:=hr.red k h2 (by omega)
   rw [ih.ld k h3,ih.pv k h3] at h4
   exact h4
  ·rw [hr.ne i e2];exact ih.red i k (by omega) h2 h3
theorem BC (h:Ech c n Z):Hf c n (gE c n Z)∧Eqv n n c (gE c n Z) Z:=by
 have o:=vZ h n (aI n)
 exact⟨⟨o.ech,fun i k I H=>by
  have:=o.red i k (by omega) I H
  unfold gE
  rw [o.ld k H,o.pv k H]
  exact this⟩,o.eqv⟩
theorem QU (i j:Nat)(Z:Mx):fN i j 0 Z=Z:=by
 funext a b
 unfold fN
 split
 ·rename_i h;subst h;simp
 ·rfl
def adv (c:Nat)(Z:Mx)(j:Nat):Nat→Nat→Nat
 | 0,a=>a
 | f+1,a=>if ldr c (Z a)<j then adv c Z j f (a+1) else a
theorem zB (c:Nat)(Z:Mx)(j:Nat):∀f a,a≤adv c Z j f a∧adv c Z j f a≤a+f∧(∀r,a≤r→r<adv c Z j f a→ldr c (Z r)<j)∧(adv c Z j f a<a+f→j≤ldr c (Z (adv c Z j f a)))
 | 0,a=>⟨aI _,aI _,fun r h1 h2=>by have:adv c Z j 0 a=a:=rfl;omega,fun h=>by have:adv c Z j 0 a=a:=rfl;omega⟩
 | f+1,a=>by
  obtain⟨h1,h2,h3,h4⟩:=zB c Z j f (a+1)
  rw [adv]
  by_cases h:ldr c (Z a)<j
  ·rw [if_pos h]
   refine⟨by omega,by omega,fun r o H=>?_,fun o=>h4 (by omega)⟩
   by_cases e:r=a
   ·subst e;exact h
   ·exact h3 r (by omega) H
  ·rw [if_neg h];exact⟨aI _,by omega,fun r o H=>by omega,fun _=>by omega⟩
def eL (c n:Nat):Nat→Nat→Mx→Bool×Nat×Mx
 | 0,a,Z=>(false,a,Z)
 | f+1,a,Z=>
  if ldr c (Z n)=c then (false,a,Z)
  else if adv c Z (ldr c (Z n)) (n-a) a=n∨ldr c (Z (adv c Z (ldr c (Z n)) (n-a) a))≠ldr c (Z n) then (true,adv c Z (ldr c (Z n)) (n-a) a,Z)
  else eL c n f (adv c Z (ldr c (Z n)) (n-a) a) (fI E (adv c Z (ldr c (Z n)) (n-a) a) n (ldr c (Z n)) Z)
def dD (c n:Nat)(Z:Mx):Mx:=if Z n (ldr c (Z n))<0 then gD n Z else Z
def eI (c n:Nat)(Z:Mx):Mx:=
 if (eL E c n (c+1) 0 Z).1=true then gE c (n+1) (dN n (eL E c n (c+1) 0 Z).2.1 (dD c n (eL E c n (c+1) 0 Z).2.2)) else gE c n (eL E c n (c+1) 0 Z).2.2
def iR (c n:Nat)(Z:Mx):Bool:=(eL E c n (c+1) 0 Z).1
end
structure PI (c n:Nat)(Z:Mx)(a:Nat)(Y:Mx):Prop where
 an:a≤n
 up:∀r,a<r→r≠n→Y r=Z r
 ata:a<n→Y a=Z a∨ldr c (Y a)<ldr c (Y n)
 lda:∀r,r<a→ldr c (Y r)<ldr c (Y n)
 ld:∀r,r<n→ldr c (Y r)=ldr c (Z r)
 pos:∀r,r<n→0<Y r (ldr c (Y r))
 eqv:Eqv (n+1) (n+1) c Y Z
 dep:∃x:Int,x≠0∧Qsp n c Z fun q=>Y n q-x*Z n q
theorem PI.start (h:Ech c n Z):PI c n Z 0 Z:=
 ⟨bX _,fun _ _ _=>rfl,fun _=>bE rfl,fun r h=>absurd h (Nat.not_lt_zero r),fun _ _=>rfl,h.pos,Eqv.refl _ c Z,1,by decide,Qsp.zero.congr fun j _=>by omega⟩
section
variable {E:Int→Int→Int×Int}{c n a:Nat}{Z Y:Mx}
theorem PI.advs (h:PI c n Z a Y):a≤adv c Y (ldr c (Y n)) (n-a) a∧adv c Y (ldr c (Y n)) (n-a) a≤n∧(∀r,r<adv c Y (ldr c (Y n)) (n-a) a→ldr c (Y r)<ldr c (Y n))∧
  (adv c Y (ldr c (Y n)) (n-a) a<n→ldr c (Y n)≤ldr c (Y (adv c Y (ldr c (Y n)) (n-a) a))∧∀r,adv c Y (ldr c (Y n)) (n-a) a≤r→r<n→Y r=Z r):=by
 have aa:=h.an
 obtain⟨J,_,U,H⟩:=zB c Y (ldr c (Y n)) (n-a) a
 generalize Go.Proofs.YtnpbbknemflpnaaGreat.adv c Y (ldr c (Y n)) (n-a) a=a' at*
 refine⟨J,by omega,fun r hr=>?_,fun _=>⟨H (by omega),fun r hr o=>?_⟩⟩
 ·rcases eB r a with e | e
  ·exact h.lda r e
  ·exact U r e hr
 ·by_cases e:r=a
  ·have ea:a'=a:=by omega
   subst e
   rcases h.ata o with I | I
   ·exact I
   ·have:=H (by omega);rw [ea] at this;omega
  ·exact h.up r (by omega) (by omega)
theorem PI.step (hE:nZ E)(h:PI c n Z a Y){a':Nat}(ha:a'=adv c Y (ldr c (Y n)) (n-a) a)(hj:j=ldr c (Y n))(hjc:j<c)(h1:a'<n)(h2:ldr c (Y a')=j):PI c n Z a' (fI E a' n j Y)∧(∀b,b≤j→fI E a' n j Y n b=0):=by
 obtain⟨_,_,g3,g4⟩:=h.advs
 rw [←ha,←hj] at g3 g4
 obtain⟨_,g6⟩:=g4 h1
 have o:Met c a' n j Y (fI E a' n j Y):=KR hE h1 (by have:=h.pos a' h1;rwa [h2] at this) (fun b hb=>iT (c:=c) (by omega)) (fun b hb=>iT (c:=c) (by omega))
 generalize fI E a' n j Y=X at*
 have I:j<c→j<ldr c (X n):=fun _=>xM (l:=j+1) (fun b hb _=>o.zn b (by omega))
 have H:ldr c (X a')=j:=lG o.zk hjc (by have:=o.pos;omega)
 refine⟨⟨by omega,fun r hr J=>?_,fun _=>bK (by rw [H];exact I hjc),fun r hr=>?_,fun r hr=>?_,fun r hr=>?_,o.eqv.trans h.eqv,?_⟩,o.zn⟩
 ·rw [o.ne r (by omega) J];exact h.up r (by omega) J
 ·rw [o.ne r (by omega) (by omega)];have:=g3 r hr;have:=I hjc;omega
 ·by_cases e:r=a'
  ·subst e;rw [H,←h.ld r hr,h2]
  ·rw [o.ne r e (by omega)];exact h.ld r hr
 ·by_cases e:r=a'
  ·subst e;rw [H];exact o.pos
  ·rw [o.ne r e (by omega)];exact h.pos r hr
 ·obtain⟨x,hx,hq⟩:=h.dep
  obtain⟨u,v,hu,U⟩:=o.cmb
  refine⟨u*x,Int.mul_ne_zero hu hx,(hq.lin (Spn.row (c:=c) (Z:=Z) h1).q u v).congr fun q _=>?_⟩
  rw [U q,g6 a' (aI _) h1];grind
structure PO (c n:Nat)(Z:Mx)(R:Bool×Nat×Mx):Prop where
 an:R.2.1≤n
 up:∀r,n<r→R.2.2 r=Z r
 ld:∀r,r<n→ldr c (R.2.2 r)=ldr c (Z r)
 pos:∀r,r<n→0<R.2.2 r (ldr c (R.2.2 r))
 eqv:Eqv (n+1) (n+1) c R.2.2 Z
 no:R.1=false→(∀b,b<c→R.2.2 n b=0)∧Qsp n c Z (Z n)
 yes:R.1=true→ldr c (R.2.2 n)<c∧(∀r,r<R.2.1→ldr c (R.2.2 r)<ldr c (R.2.2 n))∧∀r,R.2.1≤r→r<n→ldr c (R.2.2 n)<ldr c (R.2.2 r)
theorem C7 (hE:nZ E)(hz:Ech c n Z):∀(f a:Nat) (Y:Mx),PI c n Z a Y→c<f+ldr c (Y n)→PO c n Z (eL E c n f a Y)
 | 0,a,Y,_,hf=>by have:=oV c (Y n);omega
 | f+1,a,Y,h,hf=>by
  rw [eL]
  by_cases h1:ldr c (Y n)=c
  ·rw [if_pos h1]
   refine⟨h.an,fun r hr=>h.up r (by have:=h.an;omega) (by omega),h.ld,h.pos,h.eqv,fun _=>?_,fun e=>(by cases e)⟩
   have h0:∀b,b<c→Y n b=0:=fun b hb=>iT (c:=c) (by omega)
   refine⟨h0,?_⟩
   obtain⟨x,_,U⟩:=h.dep
   exact (U.congr (u:=fun q=> -x*Z n q) fun q U=>by rw [h0 q U,Int.neg_mul];omega).of (by omega)
  ·rw [if_neg h1]
   have H:ldr c (Y n)<c:=by have:=oV c (Y n);omega
   obtain⟨_,g2,g3,g4⟩:=h.advs
   generalize ha:adv c Y (ldr c (Y n)) (n-a) a=a' at*
   by_cases I:a'=n∨ldr c (Y a')≠ldr c (Y n)
   ·rw [if_pos I]
    refine⟨g2,fun r hr=>h.up r (by have:=h.an;omega) (by omega),h.ld,h.pos,h.eqv,fun e=>(by cases e),fun _=>⟨H,g3,fun r hr o=>?_⟩⟩
    simp only at hr⊢
    obtain⟨_,_⟩:=g4 (by omega)
    have J:ldr c (Y n)<ldr c (Y a'):=by rcases I with I | I <;> omega
    by_cases e:r=a'
    ·subst e;exact J
    ·have:=hz.up a' r (by omega) o
     rw [←h.ld a' (by omega),←h.ld r o] at this;omega
   ·rw [if_neg I]
    obtain⟨J,h4⟩:=h.step hE ha.symm G H (by omega) (by omega)
    refine C7 hE hz f a' _ J ?_
    have:ldr c (Y n)+1≤ldr c (fI E a' n (ldr c (Y n)) Y n):=xM (fun b hb _=>h4 b (by omega))
    omega
theorem wO (hE:nZ E)(hz:Ech c n Z):PO c n Z (eL E c n (c+1) 0 Z):=C7 hE hz (c+1) 0 Z (PI.start hz) (by omega)
theorem sO (i:Nat)(Z:Mx)(b:Nat):gD i Z i b= -Z i b:=by simp [gD]
theorem B4 (Z:Mx)(h:a≠i):gD i Z a=Z a:=if_neg h
theorem pW (Z:Mx)(h:a≠n:=by omega):dD c n Z a=Z a:=by unfold dD;split;(· exact B4 Z h);(· rfl)
theorem IY (Z:Mx)(hl:ldr c (Z n)<c):ldr c (dD c n Z n)=ldr c (Z n)∧0<dD c n Z n (ldr c (Z n)):=by
 have o:=oU hl
 unfold dD
 split
 ·rename_i h
  refine⟨lG (fun j hj=>by rw [sO,iT hj,Int.neg_zero]) hl (by rw [sO];omega),by rw [sO];omega⟩
 ·exact⟨rfl,by omega⟩
theorem IZ (Z:Mx):Eqv (n+1) (n+1) c (dD c n Z) Z:=by
 unfold dD;split
 ·exact HW (by omega)
 ·exact Eqv.refl _ _ _
theorem CA (h:PO c n Z R)(hz:Ech c n Z)(hy:R.1=true):Ech c (n+1) (dN n R.2.1 (dD c n R.2.2))∧Eqv (n+1) (n+1) c (dN n R.2.1 (dD c n R.2.2)) Z:=by
 obtain⟨hl,h1,h2⟩:=h.yes hy
 obtain⟨J,h4⟩:=IY (c:=c) (n:=n) R.2.2 hl
 have U:=h.an
 have hr:∀r,r<n+1→(r<R.2.1→dN n R.2.1 (dD c n R.2.2) r=R.2.2 r)∧(r=R.2.1→dN n R.2.1 (dD c n R.2.2) r=dD c n R.2.2 n)∧(R.2.1<r→dN n R.2.1 (dD c n R.2.2) r=R.2.2 (r-1)):=fun r hr=>by
  unfold dN
  refine⟨fun e=>by rw [if_neg (by omega),if_neg (by omega),pW _],fun e=>by rw [if_pos e],fun e=>by rw [if_neg (by omega),if_pos (by omega),pW _]⟩
 generalize dN n R.2.1 (dD c n R.2.2)=X at*
 refine⟨⟨fun i hi=>?_,fun i k aa H=>?_,fun i hi=>?_⟩,?_⟩
 ·rcases Nat.lt_trichotomy i R.2.1 with e | e | e
  ·rw [(hr i hi).1 e,h.ld i (by omega)];exact hz.lt i (by omega)
  ·rw [(hr i hi).2.1 e,J];exact hl
  ·rw [(hr i hi).2.2 e,h.ld _ (by omega)];exact hz.lt _ (by omega)
 ·rcases Nat.lt_trichotomy i R.2.1 with e | e | e
  ·rw [(hr i (by omega)).1 e]
   rcases Nat.lt_trichotomy k R.2.1 with I | I | I
   ·rw [(hr k H).1 I,h.ld i (by omega),h.ld k (by omega)];exact hz.up i k aa (by omega)
   ·rw [(hr k H).2.1 I,J];exact h1 i e
   ·rw [(hr k H).2.2 I,h.ld i (by omega),h.ld (k-1) (by omega)];exact hz.up i (k-1) (by omega) (by omega)
  ·rw [(hr i (by omega)).2.1 e,(hr k H).2.2 (by omega),J];exact h2 (k-1) (by omega) (by omega)
  ·rw [(hr i (by omega)).2.2 e,(hr k H).2.2 (by omega),h.ld _ (by omega),h.ld _ (by omega)];exact hz.up _ _ (by omega) (by omega)
 ·rcases Nat.lt_trichotomy i R.2.1 with e | e | e
  ·rw [(hr i hi).1 e];exact h.pos i (by omega)
  ·rw [(hr i hi).2.1 e,J];exact h4
  ·rw [(hr i hi).2.2 e];exact h.pos _ (by omega)
 ·have:Eqv (n+1) (n+1) c X R.2.2:=by
   have h5:Eqv (n+1) (n+1) c (dN n R.2.1 (dD c n R.2.2)) (dD c n R.2.2):=KH U (by omega)
   refine ((?_:Eqv (n+1) (n+1) c X (dN n R.2.1 (dD c n R.2.2))).trans h5).trans (IZ _)
   refine CD id id (fun _ h=>h) (fun _ h=>h) (fun r o=>?_) (fun r o=>?_)
   all_goals
    unfold dN
    rcases Nat.lt_trichotomy r R.2.1 with e | e | e
    ·simp only [id];rw [(hr r o).1 e,if_neg (by omega),if_neg (by omega),pW _]
    ·simp only [id];rw [(hr r o).2.1 e,if_pos e]
    ·simp only [id];rw [(hr r o).2.2 e,if_neg (by omega),if_pos (by omega),pW _]
  exact this.trans h.eqv
end
section
variable {c n d p:Nat}{Z Y A:Mx}
theorem Eqv.more (h:Eqv d p c Z A)(e:∀b,b<c→Z d b=A p b):Eqv (d+1) (p+1) c Z A:=by
 refine⟨fun i hi=>?_,fun i hi=>?_⟩
 ·by_cases ei:i=d
  ·subst ei;exact (Spn.row (Z:=A) (Nat.lt_succ_self p)).congr e
  ·obtain⟨x,H⟩:=h.fw i (by omega)
   refine⟨fun k=>if k<p then x k else 0,fun j hj=>?_⟩
   rw [H j hj]
   simp only [sm]
   rw [if_neg (Nat.lt_irrefl p),Int.zero_mul,Int.add_zero]
   exact cX fun k o=>by rw [if_pos o]
 ·by_cases ei:i=p
  ·subst ei;exact (Spn.row (Z:=Z) (Nat.lt_succ_self d)).congr fun b hb=>(e b hb).symm
  ·obtain⟨x,H⟩:=h.fro i (by omega)
   refine⟨fun k=>if k<d then x k else 0,fun j hj=>?_⟩
   rw [H j hj]
   simp only [sm]
   rw [if_neg (Nat.lt_irrefl d),Int.zero_mul,Int.add_zero]
   exact cX fun k o=>by rw [if_pos o]
theorem Spn.up {v:Nat→Int}(h:Spn d c Z v):Spn (d+1) c Z v:=by
 obtain⟨x,H⟩:=h
 refine⟨fun k=>if k<d then x k else 0,fun j hj=>?_⟩
 rw [H j hj]
 simp only [sm]
 rw [if_neg (Nat.lt_irrefl d),Int.zero_mul,Int.add_zero]
 exact cX fun k o=>by rw [if_pos o]
theorem Spn.rows {v:Nat→Int}(h:Spn d c Z v)(e:∀i,i<d→∀b,b<c→Z i b=Y i b):Spn d c Y v:=by
 obtain⟨x,H⟩:=h
 exact⟨x,fun j hj=>by rw [H j hj];exact cX fun k o=>by rw [e k o j hj]⟩
theorem Eqv.zero (h:∀b,b<c→Z d b=0):Eqv d (d+1) c Z Z:=
 ⟨fun i hi=>Spn.row (by omega),fun i hi=>by
  by_cases e:i=d
  ·subst e;exact Spn.zero.congr h
  ·exact Spn.row (by omega)⟩
theorem Eqv.same (e:∀i,i<d→∀b,b<c→Z i b=Y i b):Eqv d d c Z Y:=
 ⟨fun i hi=>(Spn.row (Z:=Y) hi).congr (e i hi),fun i hi=>(Spn.row (Z:=Z) hi).congr fun b hb=>(e i hi b hb).symm⟩
theorem Ech.same (h:Ech c d Z)(e:∀i,i<d→∀b,b<c→Z i b=Y i b):Ech c d Y:=by
 have hl:∀i,i<d→ldr c (Y i)=ldr c (Z i):=fun i hi=>xN fun j hj=>(e i hi j hj).symm
 exact⟨fun i hi=>by rw [hl i hi];exact h.lt i hi,fun i k H o=>by rw [hl i (by omega),hl k o];exact h.up i k H o,fun i hi=>by rw [hl i hi,←e i hi _ (h.lt i hi)];exact h.pos i hi⟩
theorem Hf.same (h:Hf c d Z)(e:∀i,i<d→∀b,b<c→Z i b=Y i b):Hf c d Y:=by
 have hl:∀i,i<d→ldr c (Y i)=ldr c (Z i):=fun i hi=>xN fun j hj=>(e i hi j hj).symm
 exact⟨h.toEch.same e,fun i k H o=>by rw [hl k o,←e k o _ (h.lt k o),←e i (by omega) _ (h.lt k o)];exact h.red i k H o⟩
end
structure Rin (A:Mx)(N c d e:Nat)(Z:Mx):Prop where
 de:d≤e
 eN:e≤N
 un:∀t,d+t<e→Z (d+t)=A (N-(e-d)+t)
 ze:∀r,e≤r→r<N→∀b,b<c→Z r b=0
 hf:Hf c d Z
 eqv:Eqv d (N-(e-d)) c Z A
 ind:∃is:Nat→Nat,(∀i,i<d→is i<N-(e-d))∧∀i,i<N-(e-d)→Qsp d c (fun k=>A (is k)) (A i)
theorem Rin.start (A:Mx)(N c:Nat):Rin A N c 0 N A:=
 ⟨bX _,aI _,fun t _=>by rw [o6,Nat.sub_self],fun r _ _=>by omega,⟨⟨fun i h=>absurd h (Nat.not_lt_zero i),fun i k _ h=>absurd h (Nat.not_lt_zero k),fun i h=>absurd h (Nat.not_lt_zero i)⟩,fun i k _ h=>absurd h (Nat.not_lt_zero k)⟩,
  ⟨fun i h=>absurd h (Nat.not_lt_zero i),fun i h=>by rw [o6,Nat.sub_self] at h;exact absurd h (Nat.not_lt_zero i)⟩,fun _=>0,fun i h=>absurd h (Nat.not_lt_zero i),fun i h=>by rw [o6,Nat.sub_self] at h;exact absurd h (Nat.not_lt_zero i)⟩
section
variable {E:Int→Int→Int×Int}{A Z:Mx}{N c d e:Nat}
theorem wN (h:PO c d Z (eL E c d (c+1) 0 Z))(hr:d<r):eI E c d Z r=Z r:=by
 unfold eI
 have o:=h.an
 split
 ·unfold gE
  rw [sS _ _ (by omega) _ (aI _)]
  unfold dN
  rw [if_neg (by omega),if_neg (by omega),pW _]
  exact h.up r hr
 ·unfold gE
  rw [sS _ _ (by omega) _ (aI _)]
  exact h.up r hr
theorem Rin.yes (hE:nZ E)(h:Rin A N c d e Z)(hde:d<e)(hb:iR E c d Z=true):Rin A N c (d+1) e (eI E c d Z):=by
 have o:=wO hE h.hf.toEch
 have J:=h.eN
 obtain⟨h1,h2⟩:=CA o h.hf.toEch hb
 have U:eI E c d Z=gE c (d+1) (dN d (eL E c d (c+1) 0 Z).2.1 (dD c d (eL E c d (c+1) 0 Z).2.2)):=by
  unfold eI;rw [if_pos (show (eL E c d (c+1) 0 Z).1=true from hb)]
 obtain⟨h3,h4⟩:=BC h1
 have H:N-(e-(d+1))=N-(e-d)+1:=by omega
 have I:Z d=A (N-(e-d)):=by have:=h.un 0 (by omega);rwa [eA,eA] at this
 refine⟨hde,J,fun t _=>?_,fun r h5 h6 b hb'=>?_,by rw [U];exact h3,?_,?_⟩
 ·rw [wN o (by omega),H,show d+1+t=d+(t+1) by omega,h.un (t+1) (by omega)]
  congr 1;omega
 ·rw [wN o (by omega)];exact h.ze r h5 h6 b hb'
 ·rw [H,U]
  exact (h4.trans h2).trans (h.eqv.more fun b _=>by rw [I])
 ·rw [H]
  obtain⟨is,hi,hq⟩:=h.ind
  refine⟨fun i=>if i=d then N-(e-d) else is i,fun i _=>?_,fun i _=>?_⟩
  ·by_cases ei:i=d
   ·simp only [if_pos ei];omega
   ·simp only [if_neg ei];have:=hi i (by omega);omega
  ·by_cases ei:i=N-(e-d)
   ·subst ei
    have:=Spn.row (c:=c) (Z:=fun k=>A (if k=d then N-(e-d) else is k)) (Nat.lt_succ_self d)
    simp only [if_pos] at this
    exact this.q
   ·obtain⟨s,hs,hx⟩:=hq i (by omega)
    exact⟨s,hs,(hx.rows fun k _ b _=>by simp only;rw [if_neg (by omega)]).up⟩
theorem Rin.no (hE:nZ E)(h:Rin A N c d e Z)(hde:d<e)(hb:iR E c d Z=false):Rin A N c d (e-1) (i6 d (e-1) (eI E c d Z)):=by
 have o:=wO hE h.hf.toEch
 have au:=h.eN
 obtain⟨h1,h2⟩:=o.no hb
 have e0:eI E c d Z=gE c d (eL E c d (c+1) 0 Z).2.2:=by
  unfold eI;rw [if_neg (by unfold iR at hb;rw [hb];decide)]
 have I:Ech c d (eL E c d (c+1) 0 Z).2.2:=
  ⟨fun i hi=>by rw [o.ld i hi];exact h.hf.lt i hi,fun i k ah hk=>by rw [o.ld i (by omega),o.ld k hk];exact h.hf.up i k ah hk,o.pos⟩
 obtain⟨h3,h4⟩:=BC I
 have U:=fun r (hr:d<r)=>wN (E:=E) (r:=r) o hr
 have ae:∀b,b<c→eI E c d Z d b=0:=fun b hb'=>by
  rw [e0];unfold gE;rw [sS _ _ (aI _) _ (aI _)];exact h1 b hb'
 have hp:N-(e-1-d)=N-(e-d)+1:=by omega
 have J:Z d=A (N-(e-d)):=by have:=h.un 0 (by omega);rwa [eA,eA] at this
 have H:∀i,i<d→i6 d (e-1) (eI E c d Z) i=eI E c d Z i:=fun i hi=>by unfold i6;rw [if_neg (by omega),if_neg (by omega)]
 refine⟨by omega,by omega,fun t _=>?_,fun r _ h6 b hb'=>?_,?_,?_,?_⟩
 ·unfold i6
  rw [if_neg (by omega),if_pos (by omega),U _ (by omega),hp,show d+t+1=d+(t+1) by omega,h.un (t+1) (by omega)]
  congr 1;omega
 ·unfold i6
  by_cases er:r=e-1
  ·rw [if_pos er];exact ae b hb'
  ·rw [if_neg er,if_neg (by omega),U _ (by omega)];exact h.ze r (by omega) h6 b hb'
 ·refine Hf.same (Z:=eI E c d Z) (by rw [e0];exact h3) fun i hi b _=>by rw [H i hi]
 ·rw [hp]
  have g1:Eqv d d c (i6 d (e-1) (eI E c d Z)) (eI E c d Z):=Eqv.same fun i hi b _=>by rw [H i hi]
  have g2:Eqv d d c (eI E c d Z) (eL E c d (c+1) 0 Z).2.2:=by rw [e0];exact h4
  exact (((g1.trans g2).trans (Eqv.zero h1)).trans o.eqv).trans (h.eqv.more fun b _=>by rw [J])
 ·rw [hp]
  obtain⟨is,hi,hq⟩:=h.ind
  refine⟨is,fun i ag=>by have:=hi i ag;omega,fun i _=>?_⟩
  by_cases ei:i=N-(e-d)
  ·subst ei
   rw [←J]
   exact h2.trans fun k hk=>(h.eqv.fw k hk).qs hq
  ·exact hq i (by omega)
theorem Rin.both (h:Rin A N c d e Z):∃is:Nat→Nat,(∀i,i<d→is i<N)∧(∀i,i<d→Qsp d c (fun k=>A (is k)) (Z i))∧Sub d d c (fun k=>A (is k)) Z:=by
 obtain⟨is,hi,I⟩:=h.ind
 have H:=h.eN
 exact⟨is,fun i o=>by have:=hi i o;omega,fun i o=>(h.eqv.fw i o).qs I,fun i o=>h.eqv.fro _ (hi i o)⟩
end
end
section
open Go.RowKit
def pC (P:bP)(n:Nat)(ol:List aP)(vs:List aF)(w0:a0)(dss:List (List Nat))(l:Fr):List Nat→Prop
 | []=>True
 | i::r=>(match ol[i]? with
  | some o=>∀w,Ext w0 w→gW P n (dfr ol vs l (cO dss i)) o w (.value ((vs[i]?).getD undef)) w
  | none=>True)∧pC P n ol vs w0 dss l r
def TwB (ol:List aP)(T:aO)(zs us:List aF)(j s:Nat)(w0:a0)(listed:Array Bool)(a:Act)(w:a0)(g:Nat):Prop:=
 listed.getD j false=true→eO a (bN ol j)= a9 g 0∧w0.heap.size≤g∧Bk w g T (if listed.getD s false=true then us else zs)
def TwI (n:Nat)(ol:List aP)(l:Fr)(vs:List aF)(T:aO)(zs us1 us2:List aF)(j1 s1 j2 s2:Nat)(w0:a0)(listed:Array Bool)(a:Act)(w:a0):Prop:=
 Rp n l a∧Ext w0 w∧(∀i,i<ol.length→i≠j1→i≠j2→listed.getD i false=true→∀d,bN ol i=some d→a.tmps.getD d undef=(vs[i]?).getD undef)∧
 ∃g1 g2,TwB ol T zs us1 j1 s1 w0 listed a w g1∧TwB ol T zs us2 j2 s2 w0 listed a w g2∧(listed.getD j1 false=true→listed.getD j2 false=true→g1≠g2)
def mS (P:bP)(n:Nat)(ol:List aP)(vs:List aF)(w0:a0)(l:Fr)(T:aO)(zs us:List aF)(j s k:Nat):Prop:=
 match ol[s]? with
 | some o=>∀w g,Ext w0 w→Bk w g T zs→∃w',gW P n (iQ (bN ol j) (.pointer (some ⟨g,0,none⟩)) (iQ (bN ol k) ((vs[k]?).getD undef) l)) o w .skip w'∧Bk w' g T us∧Upd g w w'
 | none=>False
def mR (P:bP)(n:Nat)(ol:List aP)(l:Fr)(T:aO)(zs:List aF)(j:Nat):Prop:=
 match ol[j]? with
 | some o=>∀w,gW P n l o w (.value (.pointer (some ⟨w.heap.size,0,none⟩))) (w.alloc (.cells zs.toArray T))
 | none=>False
def vW (N:Nat)(dss rl:List (List Nat))(j1 s1 k1 j2 s2 k2:Nat)(is:List Nat):Bool:=
 (d7 N).all (fun i=>i==j1||i==j2||i==s1||i==s2||is.contains i)&&(d7 N).all (fun i=> !(cO dss i).contains j1&& !(cO dss i).contains j2)&&decide (j1<N)&&decide (j2<N)&&decide (k1<N)&&decide (k2<N)&&decide (s1<N)&&decide (s2<N)&&
 (cO rl s1).contains j1&&(cO rl s1).contains k1&&(cO rl s2).contains j2&&(cO rl s2).contains k2&&decide (j1≠j2)&&decide (s1≠s2)&&decide (j1≠s1)&&decide (j1≠s2)&&decide (j2≠s1)&&decide (j2≠s2)&&decide (k1≠j1)&&decide (k1≠j2)&&decide (k2≠j1)&&decide (k2≠j2)
section
variable {P:bP}{Q:cE→Act→a0→Prop}{n:Nat}{ol:List aP}{vs:List aF}{w0 w:a0}{dss rl:List (List Nat)}{l:Fr}{ps:List (Nat×Nat)}{T:aO}{zs us1 us2:List aF}{j1 j2 s1 s2 k1 k2:Nat}{st:List Nat}{listed:Array Bool}{a:Act}
theorem TwI.swap (h:TwI n ol l vs T zs us1 us2 j1 s1 j2 s2 w0 listed a w):TwI n ol l vs T zs us2 us1 j2 s2 j1 s1 w0 listed a w:=by
 obtain⟨h1,J,h3,I,o,U,h5,H⟩:=h
 exact⟨h1,J,fun i hi h h'=>h3 i hi h' h,o,I,h5,U,fun h h' e=>H h' h e.symm⟩
theorem BK (hk:DetOk n ol st l dss rl ps)(ho:ol[i]?=some o)(hd:o.dst=some d)(hij:i≠j)(v:aF):eO (a.put (some d) v) (bN ol j)=eO a (bN ol j):=by
 obtain⟨_,_,_,H⟩:=hk.val i o ho d hd
 refine pV ?_ v
 unfold bN
 cases hoj:ol[j]? with
 | none=>intro h;cases h
 | some oj=>exact H j oj hoj (iB hij)
theorem TwB.far (hk:DetOk n ol st l dss rl ps)(h:TwB ol T zs us j s w0 listed a w g)(ho:ol[i]?=some o)(hd:o.dst=some d)(hij:i≠j)(his:i≠s)(v:aF)(e:Ext w w'):TwB ol T zs us j s w0 (listed.setIfInBounds i true) (a.put (some d) v) w' g:=by
 intro hl
 rw [Go.getD_set_ne false hij] at hl
 obtain⟨H,I,J⟩:=h hl
 refine⟨(BK hk ho hd hij v).trans H,I,?_⟩
 rw [Go.getD_set_ne false his]
 exact J.ext e
theorem AV (hk:DetOk n ol st l dss rl ps)(h:∀i,i<ol.length→i≠j1→i≠j2→listed.getD i false=true→∀d,bN ol i=some d→a.tmps.getD d undef=(vs[i]?).getD undef)(ho:ol[i]?=some o)(hd:o.dst=some d)(hs:a.tmps.size=n)(hv:i≠j1→i≠j2→v=(vs[i]?).getD undef):∀k,k<ol.length→k≠j1→k≠j2→(listed.setIfInBounds i true).getD k false=true→∀e,bN ol k=some e→(a.put (some d) v).tmps.getD e undef=(vs[k]?).getD undef:=by
 intro k hk' h1 U hl e I
 obtain⟨_,J,_,_⟩:=hk.val i o ho d hd
 by_cases H:i=k
 ·subst H
  have e1:bN ol i=some d:=by unfold bN;rw [ho];exact hd
  rw [e1] at I
  cases I
  exact (lC hs J v).trans (hv h1 U)
 ·rw [Go.getD_set_ne false H] at hl
  have:=BK (a:=a) hk ho hd H v
  rw [I] at this
  exact this.trans (h k hk' h1 U hl e I)
theorem TwI.val (hk:DetOk n ol st l dss rl ps)(h:TwI n ol l vs T zs us1 us2 j1 s1 j2 s2 w0 listed a w)(ho:ol[i]?=some o)(hd:o.dst=some d)(h1:i≠j1)(h2:i≠j2)(h3:i≠s1)(h4:i≠s2):TwI n ol l vs T zs us1 us2 j1 s1 j2 s2 w0 (listed.setIfInBounds i true) (a.put (some d) ((vs[i]?).getD undef)) w:=by
 obtain⟨hr,hx,hv,g1,U,b1,b2,H⟩:=h
 refine⟨hr.put_far (hk.val i o ho d hd).2.2.1 _,hx,AV hk hv ho hd hr.size (fun _ _=>rfl),g1,U,b1.far hk ho hd h1 h3 _ aB,b2.far hk ho hd h2 h4 _ aB,fun I J=>?_⟩
 rw [Go.getD_set_ne false h1] at I
 rw [Go.getD_set_ne false h2] at J
 exact H I J
theorem TwI.new (hk:DetOk n ol st l dss rl ps)(h:TwI n ol l vs T zs us1 us2 j1 s1 j2 s2 w0 listed a w)(ho:ol[j1]?=some o)(hd:o.dst=some d)(hs1:listed.getD s1 false=false)(h2:j1≠j2)(h3:j1≠s1)(h4:j1≠s2):TwI n ol l vs T zs us1 us2 j1 s1 j2 s2 w0 (listed.setIfInBounds j1 true) (a.put (some d) (a9 w.heap.size 0)) (w.alloc (.cells zs.toArray T)):=by
 obtain⟨hr,J,hv,_,U,_,H,_⟩:=h
 refine⟨hr.put_far (hk.val j1 o ho d hd).2.2.1 _,J.alloc _,AV hk hv ho hd hr.size (fun h _=>absurd G h),w.heap.size,U,fun _=>⟨?_,J.size,?_⟩,H.far hk ho hd h2 h4 _ ((Ext.refl w).alloc _),fun _ I=>?_⟩
 ·have e1:bN ol j1=some d:=by unfold bN;rw [ho];exact hd
  rw [e1]
  exact lC hr.size (hk.val j1 o ho d hd).2.1 _
 ·rw [Go.getD_set_ne false h3,hs1]
  exact Bk.new w T zs
 ·rw [Go.getD_set_ne false h2] at I
  have:=(H I).2.2.lt
  omega
theorem TwI.fill (h:TwI n ol l vs T zs us1 us2 j1 s1 j2 s2 w0 listed a w)(hj:listed.getD j1 false=true)(hg:eO a (bN ol j1)= a9 g 0)(hb:Bk w' g T us1)(hu:Upd g w w')(hN:s1<listed.size)(_h1:s1≠j1)(h2:s1≠j2)(h3:s1≠s2)(hd:bN ol s1=none):TwI n ol l vs T zs us1 us2 j1 s1 j2 s2 w0 (listed.setIfInBounds s1 true) a w':=by
 obtain⟨hr,hx,hv,g1,g2,b1,b2,H⟩:=h
 obtain⟨c1,U,_⟩:=b1 hj
 have J:g=g1:=by
  rw [hg] at c1
  injection c1 with c1
  injection c1 with c1
  injection c1
 subst J
 refine⟨hr,hu.ext hx U,fun i hi e1 o hl d hd'=>?_,g,g2,fun _=>⟨c1,U,?_⟩,fun o=>?_,fun e1 o=>?_⟩
 ·by_cases I:s1=i
  ·subst I;rw [hd] at hd';cases hd'
  ·rw [Go.getD_set_ne false I] at hl
   exact hv i hi e1 o hl d hd'
 ·rw [if_pos (by simp [hN])];exact hb
 ·rw [Go.getD_set_ne false h2] at o
  obtain⟨d1,d2,d3⟩:=b2 o
  rw [Go.getD_set_ne false h3]
  exact⟨d1,d2,d3.upd hu (fun e=>H hj o e.symm)⟩
 ·rw [Go.getD_set_ne false h2] at o
  exact H hj o
theorem H9 (h:pC P n ol vs w0 dss l is):∀i∈is,∀o,ol[i]?=some o→∀w,Ext w0 w→gW P n (dfr ol vs l (cO dss i)) o w (.value ((vs[i]?).getD undef)) w:=by
 induction is with
 | nil=>intro i hi;cases hi
 | cons k r ih=>
  intro i hi o ho
  rcases List.mem_cons.1 hi with e | e
  ·subst e
   have:=h.1
   rw [ho] at this
   exact this
  ·exact ih h.2 i e o ho
def FU (Q:cE→Act→a0→Prop)(n:Nat)(ol:List aP)(vs:List aF)(l:Fr)(w0:a0)(T:aO)(us1 us2:List aF)(j1 j2:Nat)(is:List Nat):Prop:=
 ∀g1 g2 w,Ext w0 w→g1≠g2→w0.heap.size≤g1→w0.heap.size≤g2→Bk w g1 T us1→Bk w g2 T us2→eo Q .normal n (iQ (bN ol j1) (a9 g1 0) (iQ (bN ol j2) (a9 g2 0) (dfr ol vs l is))) w
theorem HJ (hk:DetOk n ol [s1,s2] l dss rl ps)(ht:vW ol.length dss rl j1 s1 k1 j2 s2 k2 is=true)(hj1:j1 ∉ is)(hj2:j2 ∉ is)(his:∀i∈is,i<ol.length)(hv:pC P n ol vs w0 dss l is)(hm1:mR P n ol l T zs j1)(hm2:mR P n ol l T zs j2)(hf1:mS P n ol vs w0 l T zs us1 j1 s1 k1)(hf2:mS P n ol vs w0 l T zs us2 j2 s2 k2)(hfin:FU Q n ol vs l w0 T us1 us2 j1 j2 is):∀(fuel:Nat) (listed:Array Bool) (a:Act) (w:a0),nB ol.length listed≤fuel→listed.size=ol.length→Closed ol listed→TwI n ol l vs T zs us1 us2 j1 s1 j2 s2 w0 listed a w→wpAny P .any ol.toArray Q fuel listed a w:=by
 simp only [vW,dU,decide_eq_true_eq,j8,ne_eq] at ht
 obtain⟨⟨⟨⟨⟨⟨⟨⟨⟨⟨⟨⟨⟨⟨⟨⟨⟨⟨⟨⟨⟨hall0,hnd⟩,l1⟩,l2⟩,l3⟩,l4⟩,l5⟩,l6⟩,r1⟩,r2⟩,r3⟩,r4⟩,n1⟩,n2⟩,n3⟩,n4⟩,n5⟩,n6⟩,n7⟩,n8⟩,n9⟩,n10⟩:=ht
 rw [eZ] at hall0 hnd
 have fin:∀(listed:Array Bool) (a:Act) (w:a0),(∀i,i<ol.length→listed.getD i false=true)→TwI n ol l vs T zs us1 us2 j1 s1 j2 s2 w0 listed a w→Q .normal a w:=by
  intro listed a w hall h
  obtain⟨hr,hx,hval,g1,g2,b1,b2,hne⟩:=h
  obtain⟨c1,c2,c3⟩:=b1 (hall _ l1)
  obtain⟨d1,d2,d3⟩:=b2 (hall _ l2)
  rw [if_pos (hall _ l5)] at c3
  rw [if_pos (hall _ l6)] at d3
  have hr1:Rp n (dfr ol vs l is) a:=hr.dfr is fun j hj d hd=>hval j (his j hj) (fun e=>hj1 (e▸hj)) (fun e=>hj2 (e▸hj)) (hall j (his j hj)) d hd
  refine hfin g1 g2 w hx (hne (hall _ l1) (hall _ l2)) c2 d2 c3 d3 a ?_
  have key:∀{l':Fr}{j:Nat}{v:aF},Rp n l' a→eO a (bN ol j)=v→Rp n (iQ (bN ol j) v l') a:=by
   intro l' j v h1 h2
   cases hd:bN ol j with
   | none=>exact h1
   | some d=>rw [hd] at h2;exact h1.cons h2
  exact key (key hr1 d1) c1
 intro fuel
 induction fuel with
 | zero=>
  intro listed a w hf hs hcl hI
  have hall:∀i,i<ol.length→listed.getD i false=true:=by
   intro i hi
   cases h:listed.getD i false with
   | true=>rfl
   | false=>have:=jD hi hs h;omega
  refine⟨?_,fin listed a w hall hI⟩
  refine List.eq_nil_iff_forall_not_mem.2 fun j hj=>?_
  obtain⟨h1,o,hoj,_⟩:=gF.1 hj
  have hjl:j<ol.length:=(fF.1 hoj).1
  rw [gT,hall j hjl] at h1
  cases h1
 | succ fuel ih=>
  intro listed a w hf hs hcl hI
  refine⟨fun h0=>?_,fun i hir=>?_⟩
  ·refine fin listed a w (fun i hi=>?_) hI
   have key:∀k,k≤ol.length→∀i,i<k→listed.getD i false=true:=by
    intro k
    induction k with
    | zero=>intro _ i hi;omega
    | succ k ihk=>
     intro hk' i hi
     have ih':=ihk (by omega)
     rcases eB i k with h | h
     ·exact ih' i h
     ·have e:i=k:=by omega
      subst e
      cases hb:listed.getD i false with
      | true=>rfl
      | false=>
       have hrdy:i∈lP .any ol.toArray listed:=gF.2 ⟨by rw [gT];exact hb,_,d8 (by omega),fun e he hbb=>ih' _ (hk.back i _ (d8 (by omega)) e he hbb)⟩
       rw [h0] at hrdy;cases hrdy
   exact key ol.length (aI _) i hi
  ·obtain⟨hun,o,hoi,hall⟩:=gF.1 hir
   have hil:i<ol.length:=(fF.1 hoi).1
   have hun':listed.getD i false=false:=by rw [←gT];exact hun
   have hrch:=tZ hk hcl i o hoi hall
   have hwant:pG o (yielded ol.toArray a.tmps)=true:=by simp [pG,hk.guard i o hoi]
   have hu:=jD hil hs hun'
   have notyet:∀s,s<ol.length→i∈cO rl s→listed.getD s false=false:=by
    intro s hsl hm
    cases hb:listed.getD s false with
    | false=>rfl
    | true=>
     have:=tZ hk hcl s _ (d8 hsl) (fun e he hbb=>hcl s _ (d8 hsl) hb e he hbb) i hm
     rw [hun'] at this;cases this
   have hr:=hI.1
   have hx:=hI.2.1
   have hval:=hI.2.2.1
   unfold wpOp
   rw [kT,hoi]
   simp only
   rw [if_pos hwant]
   refine bE ?_
   unfold jQ
   have hdst:i≠s1→i≠s2→∃d,o.dst=some d:=fun e1 e2=>by
    cases hd:o.dst with
    | none=>
     have:=hk.sto i o hoi hd
     simp at this
     rcases this with h | h
     ·exact absurd h e1
     ·exact absurd h e2
    | some d=>exact⟨d,rfl⟩
   have hnone:i∈ [s1,s2]→o.dst=none:=fun hm=>by
    cases hd:o.dst with
    | none=>rfl
    | some d=>exact absurd hm (hk.val i o hoi d hd).1
   have putRp:∀{l':Fr}{k:Nat}{v:aF},Rp n l' a→(∀d,bN ol k=some d→a.tmps.getD d undef=v)→Rp n (iQ (bN ol k) v l') a:=by
    intro l' k v h1 h2
    cases hd:bN ol k with
    | none=>exact h1
    | some d=>exact h1.cons (h2 d hd)
   by_cases e1:i=j1
   ·subst e1
    obtain⟨d,hd⟩:=hdst n3 n4
    unfold mR at hm1
    rw [hoi] at hm1
    rw [hm1 w a hr]
    simp only [jR,hd]
    exact ih _ _ _ (by omega) (by simpa using hs) (hcl.set hoi hall) (hI.new hk hoi hd (notyet s1 l5 r1) n1 n3 n4)
   by_cases e2:i=j2
   ·subst e2
    obtain⟨d,hd⟩:=hdst n5 n6
    unfold mR at hm2
    rw [hoi] at hm2
    rw [hm2 w a hr]
    simp only [jR,hd]
    exact ih _ _ _ (by omega) (by simpa using hs) (hcl.set hoi hall) ((hI.swap.new hk hoi hd (notyet s2 l6 r3) (iB n1) n6 n5).swap)
   by_cases e3:i=s1
   ·subst e3
    have hd:=hnone (by simp)
    unfold mS at hf1
    rw [hoi] at hf1
    obtain⟨g1,g2,b1,b2,hne⟩:=hI.2.2.2
    obtain⟨c1,c2,c3⟩:=b1 (hrch _ r1)
    rw [if_neg (by rw [hun'];exact Bool.false_ne_true)] at c3
    obtain⟨w',h1,h2,h3⟩:=hf1 w _ hx c3
    have hk1:Rp n (iQ (bN ol k1) ((vs[k1]?).getD undef) l) a:=putRp hr fun d hdd=>hval k1 l3 n7 n8 (hrch _ r2) d hdd
    rw [h1 a (putRp hk1 fun d hdd=>by rw [hdd] at c1;exact c1)]
    simp only [jR,hd]
    exact ih _ _ _ (by omega) (by simpa using hs) (hcl.set hoi hall) (hI.fill (hrch _ r1) c1 h2 h3 (by omega) (iB n3) (iB n5) n2 (by unfold bN;rw [hoi];exact hd))
   by_cases e4:i=s2
   ·subst e4
    have hd:=hnone (by simp)
    unfold mS at hf2
    rw [hoi] at hf2
    obtain⟨g1,g2,b1,b2,hne⟩:=hI.2.2.2
    obtain⟨c1,c2,c3⟩:=b2 (hrch _ r3)
    rw [if_neg (by rw [hun'];exact Bool.false_ne_true)] at c3
    obtain⟨w',h1,h2,h3⟩:=hf2 w _ hx c3
    have hk1:Rp n (iQ (bN ol k2) ((vs[k2]?).getD undef) l) a:=putRp hr fun d hdd=>hval k2 l4 n9 n10 (hrch _ r4) d hdd
    rw [h1 a (putRp hk1 fun d hdd=>by rw [hdd] at c1;exact c1)]
    simp only [jR,hd]
    exact ih _ _ _ (by omega) (by simpa using hs) (hcl.set hoi hall) ((hI.swap.fill (hrch _ r3) c1 h2 h3 (by omega) (iB n6) (iB n4) (iB n2) (by unfold bN;rw [hoi];exact hd)).swap)
   have hmem:i∈is:=by
    have:=hall0 i (gC.2 hil)
    simp only [Bool.or_eq_true,beq_iff_eq,j8] at this
    rcases this with (((h | h) | h) | h) | h
    ·exact absurd h e1
    ·exact absurd h e2
    ·exact absurd h e3
    ·exact absurd h e4
    ·exact h
   obtain⟨d,hd⟩:=hdst e3 e4
   have hnd':=hnd i (gC.2 hil)
   simp only [dU,vG] at hnd'
   have hacc:Rp n (dfr ol vs l (cO dss i)) a:=hr.dfr _ fun j hj d hd=>by
    have h1:=hk.deps i o hoi j hj
    have h2:=(hk.reach i o hoi j h1).1
    refine hval j (by omega) (fun e=>?_) (fun e=>?_) (hrch j h1) d hd
    ·subst e;rw [j8.2 hj] at hnd';exact absurd hnd'.1 (by simp)
    ·subst e;rw [j8.2 hj] at hnd';exact absurd hnd'.2 (by simp)
   rw [H9 hv i hmem o hoi w hx a hacc]
   simp only [jR,hd]
   exact ih _ _ _ (by omega) (by simpa using hs) (hcl.set hoi hall) (hI.val hk hoi hd e1 e2 e3 e4)
theorem ES (hmix:P.follows .mixedOrders=true)(T:aO)(zs us1 us2:List aF)(j1 s1 k1 j2 s2 k2:Nat)(vs:List aF)(is:List Nat)(dss rl:List (List Nat))(ps:List (Nat×Nat))(hk:tX n ol [s1,s2] l dss rl ps=true)(ht:(vW ol.length dss rl j1 s1 k1 j2 s2 k2 is&& !is.contains j1&& !is.contains j2&&is.all (fun i=>decide (i<ol.length)))=true)(hm1:mR P n ol l T zs j1)(hm2:mR P n ol l T zs j2)(hf1:mS P n ol vs w l T zs us1 j1 s1 k1)(hf2:mS P n ol vs w l T zs us2 j2 s2 k2)(hv:pC P n ol vs w dss l is)(hfin:FU Q n ol vs l w T us1 us2 j1 j2 is):cw P Q n (.region id ol.toArray true) l w:=fun a ha=>by
 refine wp_region_any hmix ?_
 simp only [dU,vG,eZ,decide_eq_true_eq] at ht
 obtain⟨⟨⟨h1,J⟩,U⟩,h4⟩:=ht
 have I:(kY ol.toArray.size false).size=ol.length:=by simp
 have H:∀i,(kY ol.toArray.size false).getD i false=false:=by
  intro i
  simp only [kZ,vH]
  split <;> rfl
 have hI:TwI n ol l vs T zs us1 us2 j1 s1 j2 s2 w (kY ol.toArray.size false) a w.drew:=by
  refine⟨ha,(Ext.refl w).drew,?_,0,0,?_,?_,?_⟩
  ·intro i _ _ _ h;rw [H] at h;cases h
  ·intro h;rw [H] at h;cases h
  ·intro h;rw [H] at h;cases h
  ·intro h;rw [H] at h;cases h
 refine HJ (EP hk) h1 (fun h=>by rw [j8.2 h] at J;cases J) (fun h=>by rw [j8.2 h] at U;cases U) h4 hv hm1 hm2 hf1 hf2 hfin ol.toArray.size _ a _ ?_ I (fun i o _ h=>by rw [H] at h;cases h) hI
 refine a7 uZ ?_
 simp
theorem eE (ho:ol[i]?=some o)(hv:(vs[i]?).getD undef=v)(hacc:dfr ol vs l (cO dss i)=acc)(h:∀w,Ext w0 w→gW P n acc o w (.value v) w)(h':pC P n ol vs w0 dss l is):pC P n ol vs w0 dss l (i::is):=by
 refine⟨?_,h'⟩
 rw [ho]
 simp only
 rw [hv,hacc]
 exact h
theorem tJ {z:aF}(ho:ol[j]?=some ⟨some d,.alloc T,ty,pos,af,none⟩)(hz:∀w,(zeroValue T).run P w= .ok z w)(hv:z.cells=zs.toArray):mR P n ol l T zs j:=by
 unfold mR
 rw [ho]
 intro w a _
 have e:(vE T true (.tuple #[])).run P w= .ok (a9 w.heap.size 0) (w.alloc (.cells zs.toArray T)):=by
  show ((zeroValue T>>=fun z=>(newVar T z>>=fun r=>pure (rW (some r))):Sem aF)).run P w=_
  rw [c8,hz w]
  show ((newVar T z>>=fun r=>pure (rW (some r)):Sem aF)).run P w=_
  rw [c8,wH hv];rfl
 show ((vE T true (.tuple #[])>>=fun r=>pure (iA r):Sem Next)).run P w=_
 rw [c8,e];rfl
theorem tT {dj dk:Nat}{x:cA}(ho:ol[s]?=some ⟨none,.store T x y,ty,pos,af,none⟩)(hj:bN ol j=some dj)(hkk:bN ol k=some dk)(hval:(vs[k]?).getD undef= .agg us.toArray)(hx:∀v u,bT ((dj,v)::(dk,u)::l) x=some v)(hy:∀v u,bT ((dj,v)::(dk,u)::l) y=some u)(hT:AggT P T K)(hlen:us.length=K)(hz:zs.length=K)(h1:us.all (·.oneCell')=true):mS P n ol vs w0 l T zs us j s k:=by
 unfold mS
 rw [ho]
 intro w g _ hb
 obtain⟨w',hr,h,o,_⟩:=jG (P:=P) hT hlen hb (off:=0) (by omega) h1 us (by unfold gA;rw [List.take_zero,List.nil_append,fE,hlen,←hz,List.drop_length,sF])
 refine⟨w',?_,h,o⟩
 rw [hj,hkk,hval]
 exact gG (hx _ _) (hy _ _) hr
end
structure UpS (S:Nat→Prop)(w w':a0):Prop where
 os:w'.os=w.os
 tape:w'.tape=w.tape
 output:w'.output=w.output
 size:w.heap.size≤w'.heap.size
 block:∀k,k<w.heap.size→¬S k→w'.heap[k]?=w.heap[k]?
section
variable {S:Nat→Prop}{a w w':a0}
theorem UpS.refl (S:Nat→Prop)(w:a0):UpS S w w:=⟨rfl,rfl,rfl,aI _,fun _ _ _=>rfl⟩
theorem UpS.trans (h:UpS S a w)(u:UpS S w w'):UpS S a w':=
 ⟨u.os.trans h.os,u.tape.trans h.tape,u.output.trans h.output,a7 h.size u.size,fun k o H=>(u.block k (cJ o h.size) H).trans (h.block k o H)⟩
theorem UpS.of_ext (e:Ext w w'):UpS S w w':=⟨e.below.os,e.below.tape,e.below.output,e.size,fun k h _=>e.below.block k h⟩
theorem UpS.ext (h:UpS S a w)(e:Ext w w'):UpS S a w':=h.trans (UpS.of_ext e)
theorem UpS.upd (h:UpS S a w)(u:Upd g w w')(hg:a.heap.size≤g):UpS S a w':=
 ⟨u.by_.os.trans h.os,u.by_.tape.trans h.tape,u.by_.output.trans h.output,a7 h.size u.by_.size,fun k o H=>(u.by_.block k (cJ o h.size) (fun e=>by injection e with e;omega)).trans (h.block k o H)⟩
theorem UpS.of_updO (u:UpdO A w w')(hA:∀p,A=some p→S p.block):UpS S w w':=
 ⟨u.by_.os,u.by_.tape,u.by_.output,u.by_.size,fun k h o=>u.by_.block k h (fun e=>by
  cases A with
  | none=>cases e
  | some p=>injection e with e;exact o (e▸hA p rfl))⟩
theorem UpS.mono {T:Nat→Prop}(h:UpS S w w')(hs:∀k,S k→T k):UpS T w w':=⟨h.os,h.tape,h.output,h.size,fun k o H=>h.block k o fun q=>H (hs k q)⟩
theorem UpS.toExt (h:UpS S w w')(e:Ext a w)(hS:∀k,S k→a.heap.size≤k):Ext a w':=
 ⟨⟨h.os.trans e.below.os,h.tape.trans e.below.tape,h.output.trans e.below.output,a7 e.size h.size,fun k o=>(h.block k (cJ o e.size) (fun q=>by have:=hS k q;omega)).trans (e.below.block k o)⟩⟩
theorem Bk.upS (h:Bk w g t vs)(u:UpS S w w')(hg:¬S g):Bk w' g t vs:=(u.block g h.lt hg).trans h
theorem Own.upS (h:Own w b t s A n cap vs)(u:UpS S w w')(hA:∀p,A=some p→¬S p.block):Own w' b t s A n cap vs:=by
 rcases h with h | ⟨g,cs,o,hb,H,r⟩
 ·exact bE h
 ·exact bK ⟨g,cs,o,hb,H.upS u (hA _ o),r⟩
def nY (S:Nat→Prop)(w:a0)(T:aO):Prop:=∀k,S k→∀vs,¬Bk w k T vs
theorem Own.upT (h:Own w b t s A n cap vs)(u:UpS S w w')(hN:nY S w t):Own w' b t s A n cap vs:=by
 rcases h with h | ⟨g,cs,H,hb,o,r⟩
 ·exact bE h
 ·exact bK ⟨g,cs,H,hb,o.upS u (fun q=>hN g q cs o),r⟩
theorem Zr.upS {s:Bool}(h:Zr w b s A n cap z)(u:UpS S w w')(hN:nY S w 45):Zr w' b s A n cap z:=⟨h.sgn,h.len,h.own.upT u hN⟩
theorem El.upS {e:ZC}(h:El none b w e z)(u:UpS S w w')(hN:nY S w 45):El none b w' e z:=bE (h.zr.upS u hN)
theorem Lz.upS (h:Lz none K b w lb A n cap zs)(u:UpS S w w')(hN:nY S w 45)(hA:∀p,A=some p→¬S p.block):Lz none K b w' lb A n cap zs:=by
 obtain⟨es,H,J,I,o⟩:=h
 exact⟨es,H.upS u hA,J,I,fun i hi=>⟨(o i hi).1,(o i hi).2.upS u hN⟩⟩
theorem Bk.type (h:Bk w g t vs)(h':Bk w g t' us):t=t':=by
 unfold Bk at h h'
 rw [h] at h'
 injection h' with h'
 injection h'
theorem Own.type (h:Own w b t s A n cap vs){p:a6}(hp:A=some p)(hg:p.block=g)(h':Bk w g t' us):t=t':=by
 rcases h with h | ⟨g',cs,H,hb,o,r⟩
 ·rw [h.1] at hp;cases hp
 ·rw [H] at hp;cases hp
  simp only at hg
  subst hg
  exact o.type h'
end
theorem Rcs.turn {ra:Nat→Option a6}{rc:Nat→Nat}(h:Rcs K lb n m ra rc w Z)(hr:r<n)(u:UpdO (ra r) w w')(hz:Lz none K 0 w' lb (ra r) m (rc r) zs):Rcs K lb n m ra rc w' (fun a=>if a=r then fun j=>zs.getD j 0 else Z a):=by
 obtain⟨us,H⟩:=h.own hr
 refine⟨fun s o=>?_,h.dis⟩
 by_cases e:s=r
 ·subst e;exact⟨zs,hz,fun j _=>by rw [if_pos rfl]⟩
 ·obtain⟨ys,J,I⟩:=h.row s o
  exact⟨ys,J.updO H u (h.dis r s hr o fun q=>e q.symm),fun j hj=>by rw [if_neg e];exact I j hj⟩
def S2 (A B:Option a6):Nat→Prop:=fun k=>(∃p,A=some p∧p.block=k)∨∃p,B=some p∧p.block=k
theorem Rcs.turn2 {ra:Nat→Option a6}{rc:Nat→Nat}(h:Rcs K lb n m ra rc w Z)(hr:r<n)(hs:s<n)(hrs:r≠s)(u:UpS (S2 (ra r) (ra s)) w w')(hz:Lz none K 0 w' lb (ra r) m (rc r) zs)(hy:Lz none K 0 w' lb (ra s) m (rc s) ys):Rcs K lb n m ra rc w' (fun a=>if a=r then fun j=>zs.getD j 0 else if a=s then fun j=>ys.getD j 0 else Z a):=by
 obtain⟨us,ho⟩:=h.own hr
 obtain⟨vs,hv⟩:=h.own hs
 have hN:nY (S2 (ra r) (ra s)) w 45:=fun k hk vs hb=>by
  rcases hk with⟨p,o,e⟩ | ⟨p,o,e⟩
  ·exact absurd (ho.type o e hb) (by decide)
  ·exact absurd (hv.type o e hb) (by decide)
 refine⟨fun t H=>?_,h.dis⟩
 by_cases e:t=r
 ·subst e;exact⟨zs,hz,fun j _=>by rw [if_pos rfl]⟩
 ·by_cases U:t=s
  ·subst U;exact⟨ys,hy,fun j _=>by rw [if_neg e,if_pos rfl]⟩
  ·obtain⟨xs,h1,h2⟩:=h.row t H
   refine⟨xs,h1.upS u hN fun p o hS=>?_,fun j hj=>by rw [if_neg e,if_neg U];exact h2 j hj⟩
   rcases hS with⟨q,I,J⟩ | ⟨q,I,J⟩
   ·exact h.dis r t hr H (fun x=>e x.symm) q p I o J
   ·exact h.dis s t hs H (fun x=>U x.symm) q p I o J
theorem iK:AggT aJ 112 4:=⟨fun _=>by kernel_rfl,fun _=>by kernel_rfl⟩
theorem FM:AggT aJ 124 8:=⟨fun _=>by kernel_rfl,fun _=>by kernel_rfl⟩
theorem uA:∀w,(isAgg 97).run aJ w= .ok false w:=fun _=>by kernel_rfl
theorem I5:∀w,(sizeOf 97).run aJ w= .ok 1 w:=fun _=>by kernel_rfl
def qU (gr:Nat):aF:= .func (.func 83) #[] #[a9 gr 0]
def qT (gr:Nat):aF:= .func (.func 84) #[] #[a9 gr 0]
def qW (gr:Nat):aF:= .func (.func 85) #[] #[a9 gr 0]
def qV (gr:Nat):aF:= .func (.func 87) #[] #[a9 gr 0]
structure Ldr (lb N c gl gs gr:Nat)(RA:Option a6)(rcap:Nat)(ra:Nat→Option a6)(rc:Nat→Nat)(w:a0)(Z:Mx):Prop where
 bl:Bk w gl 99 [By RA N rcap,By (some ⟨gs,0,none⟩) 1 1]
 bs:Bk w gs 112 [qU gr,qT gr,qW gr,qV gr]
 br:Bk w gr 54 [By RA N rcap]
 ex:∃ps Y,Own w lb 22 1 RA N rcap (ps.map (dW ra rc c))∧Rcs 68719476736 lb N c ra rc w Y∧Per N ps∧∀i j,i<N→j<c→Z i j=Y (ps.getD i 0) j
 lb_:lb≤gl∧lb≤gs∧lb≤gr
def LS (N gl gs gr:Nat)(RA:Option a6)(ra:Nat→Option a6):Nat→Prop:=fun k=>k=gl∨k=gs∨k=gr∨(∃p,RA=some p∧p.block=k)∨∃r,r<N∧∃p,ra r=some p∧p.block=k
section
variable {lb N c gl gs gr:Nat}{RA:Option a6}{rcap:Nat}{ra:Nat→Option a6}{rc:Nat→Nat}{w w':a0}{Z Y:Mx}
theorem Ldr.lt (h:Ldr lb N c gl gs gr RA rcap ra rc w Z)(hk:LS N gl gs gr RA ra k):lb≤k∧k<w.heap.size:=by
 obtain⟨J,I,U⟩:=h.lb_
 obtain⟨ps,Y,H,hc,_⟩:=h.ex
 rcases hk with rfl | rfl | rfl | ⟨p,o,rfl⟩ | ⟨r,hr,p,o,rfl⟩
 ·exact⟨J,h.bl.lt⟩
 ·exact⟨I,h.bs.lt⟩
 ·exact⟨U,h.br.lt⟩
 ·exact H.block p o
 ·exact hc.lt r hr p o
theorem Ldr.no (h:Ldr lb N c gl gs gr RA rcap ra rc w Z)(h1:99≠T)(h2:112≠T)(h3:54≠T)(h4:22≠T)(h5:41≠T):nY (LS N gl gs gr RA ra) w T:=fun k J vs hb=>by
 obtain⟨ps,Y,H,U,_⟩:=h.ex
 rcases J with rfl | rfl | rfl | ⟨p,o,e⟩ | ⟨r,hr,p,o,e⟩
 ·exact h1 (h.bl.type hb)
 ·exact h2 (h.bs.type hb)
 ·exact h3 (h.br.type hb)
 ·exact h4 (H.type o e hb)
 ·obtain⟨us,I⟩:=U.own hr
  exact h5 (I.type o e hb)
theorem Ldr.no64 (h:Ldr lb N c gl gs gr RA rcap ra rc w Z):nY (LS N gl gs gr RA ra) w 45:=h.no (by decide) (by decide) (by decide) (by decide) (by decide)
theorem Ldr.cong (h:Ldr lb N c gl gs gr RA rcap ra rc w Z)(e:∀i j,i<N→j<c→Y i j=Z i j):Ldr lb N c gl gs gr RA rcap ra rc w Y:=by
 obtain⟨ps,X,H,I,o,J⟩:=h.ex
 exact⟨h.bl,h.bs,h.br,⟨ps,X,H,I,o,fun i j hi hj=>(e i j hi hj).trans (J i j hi hj)⟩,h.lb_⟩
theorem Ldr.rows (h:Ldr lb N c gl gs gr RA rcap ra rc w Z){S:Nat→Prop}(u:UpS S w w')(hS:∀k,S k→(∃p,RA=some p∧p.block=k)∨∃r,r<N∧∃p,ra r=some p∧p.block=k)(hex:∃ps X,Own w' lb 22 1 RA N rcap (ps.map (dW ra rc c))∧Rcs 68719476736 lb N c ra rc w' X∧Per N ps∧∀i j,i<N→j<c→Y i j=X (ps.getD i 0) j):Ldr lb N c gl gs gr RA rcap ra rc w' Y∧UpS (LS N gl gs gr RA ra) w w':=by
 obtain⟨ps,X,I,hc,o,_⟩:=h.ex
 have key:∀{g:Nat}{T:aO}{vs:List aF},Bk w g T vs→22≠T→41≠T→¬S g:=fun {g T vs} hb h1 J H=>by
  rcases hS g H with⟨p,o,e⟩ | ⟨r,hr,p,o,e⟩
  ·exact h1 (I.type o e hb)
  ·obtain⟨us,U⟩:=hc.own hr
   exact J (U.type o e hb)
 exact⟨⟨h.bl.upS u (key h.bl (by decide) (by decide)),h.bs.upS u (key h.bs (by decide) (by decide)),h.br.upS u (key h.br (by decide) (by decide)),hex,h.lb_⟩,u.mono fun k H=>bK (bK (bK (hS k H)))⟩
end
def LaA (k:Int)(xs ys:List Int)(i:Nat)(us:List Int):Prop:=(∀b,b<i→us.getD b 0=k*ys.getD b 0+xs.getD b 0)∧∀b,i≤b→us.getD b 0=xs.getD b 0
theorem LaA.start (k:Int)(xs ys:List Int):LaA k xs ys 0 xs:=⟨fun b h=>absurd h (Nat.not_lt_zero b),fun _ _=>rfl⟩
theorem LaA.next {k:Int}{us:List Int}(h:LaA k xs ys i us)(hl:i<us.length):LaA k xs ys (i+1) (us.set i (k*ys.getD i 0+us.getD i 0)):=by
 refine⟨fun b hb=>?_,fun b hb=>?_⟩
 ·rw [jM hl]
  by_cases e:b=i
  ·subst e;rw [if_pos rfl,h.2 b (aI _)]
  ·rw [if_neg e];exact h.1 b (by omega)
 ·rw [jM hl,if_neg (by omega)];exact h.2 b (by omega)
theorem LaA.skip {k:Int}{us:List Int}(h:LaA k xs ys i us)(h0:ys.getD i 0=0):LaA k xs ys (i+1) us:=by
 refine⟨fun b hb=>?_,fun b hb=>h.2 b (by omega)⟩
 by_cases e:b=i
 ·subst e;rw [h0,Int.mul_zero,Int.zero_add];exact h.2 b (aI _)
 ·exact h.1 b (by omega)
def LaM (p q:Int)(xs ys:List Int)(i:Nat)(us zs:List Int):Prop:=(∀b,b<i→zs.getD b 0=p*xs.getD b 0+q*ys.getD b 0)∧∀b,i≤b→zs.getD b 0=us.getD b 0
theorem LaM.start (p q:Int)(xs ys us:List Int):LaM p q xs ys 0 us us:=⟨fun b h=>absurd h (Nat.not_lt_zero b),fun _ _=>rfl⟩
theorem LaM.next {q y:Int}{us:List Int}(h:LaM p q xs ys i us zs)(hl:i<zs.length)(hx:x=xs.getD i 0)(hy:y=ys.getD i 0):LaM p q xs ys (i+1) us (zs.set i (p*x+q*y)):=by
 refine⟨fun b hb=>?_,fun b hb=>?_⟩
 ·rw [jM hl]
  by_cases e:b=i
  ·subst e;rw [if_pos rfl,hx,hy]
  ·rw [if_neg e];exact h.1 b (by omega)
 ·rw [jM hl,if_neg (by omega)];exact h.2 b (by omega)
theorem O0 {vs:List Int}(hlv:Lz none 68719476736 0 w lb VA N vc vs)(hlb:lb≤w.heap.size)(hlr:Lz none 68719476736 0 w lbr RA N rc rs)(hlbr:lbr≤w.heap.size)(hdi:∀p q:a6,VA=some p→RA=some q→p.block≠q.block)(hN:N≤8192){sk:Bool}(hk:Zr w b_k sk Ak nk ck x)(Lk:ln x≤68719476736)(hb:∀b,b<N→ln (x*rs.getD b 0+vs.getD b 0)≤68719476736):aR aJ 86 #[By VA N vc,By RA N rc,O sk Ak nk ck] w (fun e w'=>∃ys,e= .returned (.tuple #[])∧Lz none 68719476736 0 w' lb VA N vc ys∧(∀b,b<N→ys.getD b 0=x*rs.getD b 0+vs.getD b 0)∧UpdO VA w w'):=by
 refine bQ Tryz.func86 G (n:=32) G (bq G) (args:= [By VA N vc,By RA N rc,O sk Ak nk ck]) ?_
 have ip:=hlv.block
 have ir:=hlr.block
 refine bH [(0,By VA N vc),(1,By RA N rc),(2,O sk Ak nk ck)] ⟨rfl,rfl,rfl,Ht⟩ (sr (m3 G G (vs:= (a4 sk Ak nk ck)) G fun g3 v4 nb=>?_))
 have fo:=nb.bk
 have iv:w.heap.size≤g3:=by rw [←nb.at_];exact (UO.refl VA w).size
 have ig:∀p:a6,VA=some p→p.block≠g3:=fun p hp=>by have:=(hlv).block p hp;have:=nb.at_;omega
 have fk:∀p:a6,RA=some p→p.block≠g3:=fun p hp=>by have:=(hlr).block p hp;have:=nb.at_;omega
 have e5:=nb.ext
 clear nb
 have ar:UpdO VA w v4:=UO.ext (UO.refl VA w) e5
 refine aE (sr (mv 1 G (pu (v:= AI N) G (mv 1 G (aE (bB ?_))))))
 refine d6 (T:=a0×Nat×List Int) (fun⟨wr,i,us⟩=> [(0,By VA N vc),(1,By RA N rc),(2,O sk Ak nk ck),(5,a9 g3 0),(7,By VA N vc),(8,AI N),(9,AI i)]) (fun⟨wr,i,us⟩=>wr) (fun⟨wr,i,us⟩=>(UpdO VA w wr)∧(i≤N)∧(Bk wr g3 41 (a4 sk Ak nk ck))∧(Zr wr b_k sk Ak nk ck (x))∧(lb≤wr.heap.size)∧(Lz none 68719476736 0 wr lb VA N vc us)∧(∀p:a6,VA=some p→p.block≠g3)∧(lbr≤wr.heap.size)∧(Lz none 68719476736 0 wr lbr RA N rc rs)∧(∀p:a6,RA=some p→p.block≠g3)∧(∀p q:a6,RA=some p→VA=some q→p.block≠q.block)∧(LaA x vs rs i us)) (fun⟨wr,i,us⟩=>N-i)
  (⟨v4,0,vs⟩:a0×Nat×List Int) ⟨ar,(by omega),fo,(hk.ext e5),(a7 hlb e5.size),(hlv.ext e5),ig,(a7 hlbr e5.size),(hlr.ext e5),fk,(fun p q hp hq e=>hdi q p hq hp e.symm),(LaA.start x vs rs)⟩ G ⟨rfl,rfl,rfl,rfl,rfl,rfl,rfl,Ht⟩ ?_
 rintro⟨wr,i,us⟩ ⟨ar,_,b_g3,z_g3,l_VAb,l_VA,l_VA_g3,l_RAb,l_RA,l_RA_g3,d_l_RA_l_VA,hA⟩
 refine d4 [(0,By VA N vc),(1,By RA N rc),(2,O sk Ak nk ck),(5,a9 g3 0),(7,By VA N vc),(8,AI N),(9,AI i)] wr G ⟨rfl,rfl,rfl,rfl,rfl,rfl,rfl,Ht⟩ ?_
 have fx:=l_VA.block
 have ie:=l_RA.block
 refine aH ?_
 by_cases co:i<N
 ·refine aL (aN G G G true (dB (a:=i) (b:=N) G G) (aE (aH (bJ G (bA (aM (aH (bB (sr (mv 2 G (aE (aH ?_))))))))))))
  by_cases cd:rs.getD i 0=0
  ·refine aL (mv 2 G ?_)
   obtain⟨dc,dy,ey,da,dh,ce,bw,cf,dn⟩:=(l_RA).at (i:=i) (by omega)
   have ak:=dn.zr
   have cx:ln (rs.getD i 0)≤68719476736:=ak.ln_le cf
   refine aX G G G bM aG.size i G dc ce (aK G G (bw _ aB _ _ aG) (bR G G (vs:= [O dy ey da dh]) (by kernel_rfl) (by decide) (f8 ak.zi (ak.le (aZ cx G))) ?_))
   rintro _ cz ⟨_,rfl,fj,aa⟩
   refine bL ?_
   have o:UpdO VA w cz:=UO.ext ar aa
   obtain rfl:=fj
   refine aN G G G false (pY cd) (aE (aY G (bA (cC (aM (aL (bC G G G ((i+1:Nat):Int) (bW (a:=i) (b:=1) G G) (mv 1 G (aS (cB (⟨cz,i+1,us⟩:a0×Nat×List Int) ⟨o,(by omega),(b_g3.ext aa),(z_g3.ext aa),(a7 l_VAb aa.size),(l_VA.ext aa),l_VA_g3,(a7 l_RAb aa.size),(l_RA.ext aa),l_RA_g3,d_l_RA_l_VA,(hA.skip cd)⟩ (show N-(i+1)<N-i by omega) G ⟨rfl,rfl,rfl,rfl,rfl,rfl,rfl,Ht⟩))))))))))
  ·refine aL (mv 2 G ?_)
   obtain⟨aw,ba,ao,ai,aj,av,bc,bz,em⟩:=(l_RA).at (i:=i) (by omega)
   have U:=em.zr
   have bj:ln (rs.getD i 0)≤68719476736:=U.ln_le bz
   refine aX G G G bM aG.size i G aw av (aK G G (bc _ aB _ _ aG) (bR G G (vs:= [O ba ao ai aj]) (by kernel_rfl) (by decide) (f8 U.zi (U.le (aZ bj G))) ?_))
   rintro _ il ⟨_,rfl,ft,I⟩
   refine bL ?_
   have o:UpdO VA w il:=UO.ext ar I
   obtain rfl:=ft
   refine aN G G G true (pX cd) (aE (bJ G ?_))
   obtain⟨ag,bu,bv,bh,bo,ab,cn,cj,dw⟩:=((l_VA.ext I)).at (i:=i) (by omega)
   have au:=dw.zr
   have eg:ln (us.getD i 0)≤68719476736:=au.ln_le cj
   have gy:ln (x*(rs.getD i 0)+(us.getD i 0))≤68719476736:=(by rw [hA.2 i (aI _)];exact hb i co)
   refine dP cF 13 [] [Is (By VA N vc),Is (AI i),Is (O sk Ak nk ck),Is (By RA N rc),Is (AI i),Is (.pointer (some aw)),Is (O ba ao ai aj),Is (By VA N vc),Is (AI i),Is (.pointer (some ag)),Is (O bu bv bh bo),ZR w.heap.size (x*(rs.getD i 0)+(us.getD i 0)),Is (.pointer (some ag))] [[],[],[],[],[],[3,4],[5],[],[],[7,8],[9],[2,6,10],[0,1]] [[],[],[],[],[],[3,4],[3,4,5],[],[],[7,8],[7,8,9],[2,3,4,5,6,7,8,9,10],[0,1,2,3,4,5,6,7,8,9,10,11],[0,1,2,3,4,5,6,7,8,9,10,11,12]] rfl
    (aD G G (aA G G ?_) (aD G G (aA G G ?_) (aD G G (aA G G ?_) (aD G G (aA G G ?_) (aD G G (aA G G ?_) (aD G G (aA G G ?_) (aD G G (aA G G ?_) (aD G G (aA G G ?_) (aD G G (aA G G ?_) (aD G G (aA G G ?_) (aD G G (aA G G ?_) (aD G G (aA G G ?_) (aD G G (aA G G ?_) dF))))))))))))) ?_
   ·intro im fe
    have h:UpdO VA w im:=UO.ext o fe
    refine a8 (mv 1 G ?_)
    exact aC G aB rfl
   ·intro ia ii
    have h:UpdO VA w ia:=UO.ext o ii
    refine a8 (mv 1 G ?_)
    exact aC G aB rfl
   ·intro ic du
    have h:UpdO VA w ic:=UO.ext o du
    refine a8 (lo aG (b_g3.ext (I.t du)) (a4 sk Ak nk ck) G G G ?_)
    exact aC G aB rfl
   ·intro ij gk
    have h:UpdO VA w ij:=UO.ext o gk
    refine a8 (mv 1 G ?_)
    exact aC G aB rfl
   ·intro fg fy
    have h:UpdO VA w fg:=UO.ext o fy
    refine a8 (mv 1 G ?_)
    exact aC G aB rfl
   ·intro ik fq
    have h:UpdO VA w ik:=UO.ext o fq
    refine dk G G (dk G G (a8 (aX G G G bM aG.size i G aw av ?_)))
    exact aC G aB rfl
   ·intro gj dq
    have h:UpdO VA w gj:=UO.ext o dq
    refine dk G G (a8 (aK G G (bc _ (I.t dq) _ _ aG) ?_))
    exact aC G aB rfl
   ·intro fd fv
    have h:UpdO VA w fd:=UO.ext o fv
    refine a8 (mv 1 G ?_)
    exact aC G aB rfl
   ·intro fr gg
    have h:UpdO VA w fr:=UO.ext o gg
    refine a8 (mv 1 G ?_)
    exact aC G aB rfl
   ·intro gn fh
    have h:UpdO VA w gn:=UO.ext o fh
    refine dk G G (dk G G (a8 (aX G G G bM aG.size i G ag ab ?_)))
    exact aC G aB rfl
   ·intro fz fa
    have h:UpdO VA w fz:=UO.ext o fa
    refine dk G G (a8 (aK G G (cn _ fa _ _ aG) ?_))
    exact aC G aB rfl
   ·intro io bg
    have h:UpdO VA w io:=UO.ext o bg
    refine dk G G (dk G G (dk G G (a8 ?_)))
    have iu:ln (x*(rs.getD i 0)+(us.getD i 0))≤68719476736:=(by rw [hA.2 i (aI _)];exact hb i co)
    refine bR G G (vs:= [O sk Ak nk ck,O ba ao ai aj,O bu bv bh bo]) (by kernel_rfl) (by decide) (xX h.size (z_g3.ext (I.t bg)).zi (z_g3.le (aZ Lk G)) (U.ext (I.t bg)).zi (U.le (aZ bj G)) (au.ext bg).zi (au.le (aZ eg G))) ?_
    rintro _ ib ⟨_,rfl,gc,ee⟩
    refine bL ?_
    have df:UpdO VA w ib:=UO.ext h ee
    obtain⟨_,_,_,_,rfl,ge⟩:=gc
    exact aC G ee ⟨_,_,_,_,rfl,ge⟩
   ·intro gw gt
    have h:UpdO VA w gw:=UO.ext o gt
    refine dk G G (dk G G (a8 (aX G G G bM aG.size i G ag ab ?_)))
    exact aC G aB rfl
   ·intro fb J
    have h:UpdO VA w fb:=UO.ext o J
    refine dk G G (dk G G (dk G G (dk G G (dk G G (dk G G (dk G G (dk G G (dk G G (dk G G (dk G G (aT G G fun _ _ ez _ dl=>?_)))))))))))
    obtain⟨dd,ep,dm,eh,rfl,ac⟩:=ez
    have ac:=ac.ext dl
    refine dk G G (a8 ?_)
    have az:=(l_VA.ext (I.t J))
    obtain⟨_,ae⟩:=az.own
    refine kL (e:=⟨dd,ep,dm,eh⟩) (z:=x*(rs.getD i 0)+(us.getD i 0)) G G G ab az (bE (ac.mono (bX _))) (ac.le (aZ gy G)) fun aq cg H=>?_
    have df:UpdO VA w aq:=UO.trans h H
    have ah:lb≤aq.heap.size:=a7 (a7 (a7 l_VAb I.size) J.size) H.size
    refine aS (dA (cC (aM (aL (bC G G G ((i+1:Nat):Int) (bW (a:=i) (b:=1) G G) (mv 1 G (aS (cB (⟨aq,i+1,us.set i (x*(rs.getD i 0)+(us.getD i 0))⟩:a0×Nat×List Int) ⟨df,(by omega),((b_g3.ext (I.t J)).updO H l_VA_g3),((z_g3.ext (I.t J)).updOT ae H),ah,cg,l_VA_g3,(a7 (a7 (a7 l_RAb I.size) J.size) H.size),((l_RA.ext (I.t J)).updO ae H (fun p q hp hq e=>d_l_RA_l_VA q p hq hp e.symm)),l_RA_g3,d_l_RA_l_VA,(hA.next (by rw [l_VA.len];exact co))⟩ (show N-(i+1)<N-i by omega) G ⟨rfl,rfl,rfl,rfl,rfl,rfl,rfl,Ht⟩))))))))
 ·refine aL (aN G G G false (dK (a:=i) (b:=N) G G) (aE (aH (aY G (cM (cK (cT (cL (iW [] G Ht ?_)))))))))
  exact⟨us,rfl,l_VA,(fun b hb=>hA.1 b (by omega)),ar⟩
theorem NZ {vs:List Int}(hlv:Lz none 68719476736 0 w lb VA N vc vs)(hlb:lb≤w.heap.size)(hlr:Lz none 68719476736 0 w lbr RA N rc rs)(hlbr:lbr≤w.heap.size)(hdi:∀p q:a6,VA=some p→RA=some q→p.block≠q.block)(hN:N≤8192)(hk1:Zr w b_k1 sk1 Ak1 nk1 ck1 x1)(Lk1:ln x1≤68719476736)(hk2:Zr w b_k2 sk2 Ak2 nk2 ck2 x2)(Lk2:ln x2≤68719476736)(hk3:Zr w b_k3 sk3 Ak3 nk3 ck3 x3)(Lk3:ln x3≤68719476736)(hk4:Zr w b_k4 sk4 Ak4 nk4 ck4 x4)(Lk4:ln x4≤68719476736)(hq2:∀b,b<N→ln (x2*rs.getD b 0)≤68719476736)(hq4:∀b,b<N→ln (x4*rs.getD b 0)≤68719476736)(hb1:∀b,b<N→ln (x1*vs.getD b 0+x2*rs.getD b 0)≤68719476736)(hb2:∀b,b<N→ln (x3*vs.getD b 0+x4*rs.getD b 0)≤68719476736):aR aJ 88 #[By VA N vc,By RA N rc,.agg #[.bool sk1,By Ak1 nk1 ck1,.bool sk2,By Ak2 nk2 ck2,.bool sk3,By Ak3 nk3 ck3,.bool sk4,By Ak4 nk4 ck4]] w (fun e w'=>∃us ts,e= .returned (.tuple #[])∧Lz none 68719476736 0 w' lb VA N vc us∧Lz none 68719476736 0 w' lbr RA N rc ts∧(∀b,b<N→us.getD b 0=x1*vs.getD b 0+x2*rs.getD b 0)∧(∀b,b<N→ts.getD b 0=x3*vs.getD b 0+x4*rs.getD b 0)∧UpS (S2 VA RA) w w'):=by
 refine bQ Tryz.func88 G (n:=49) G (bq G) (args:= [By VA N vc,By RA N rc,.agg #[.bool sk1,By Ak1 nk1 ck1,.bool sk2,By Ak2 nk2 ck2,.bool sk3,By Ak3 nk3 ck3,.bool sk4,By Ak4 nk4 ck4]]) ?_
 have nh:=hlv.block
 have nj:=hlr.block
 refine bH [(0,By VA N vc),(1,By RA N rc),(2,.agg #[.bool sk1,By Ak1 nk1 ck1,.bool sk2,By Ak2 nk2 ck2,.bool sk3,By Ak3 nk3 ck3,.bool sk4,By Ak4 nk4 ck4])] ⟨rfl,rfl,rfl,Ht⟩ (sr (m3 G G (vs:= [.bool sk1,By Ak1 nk1 ck1,.bool sk2,By Ak2 nk2 ck2,.bool sk3,By Ak3 nk3 ck3,.bool sk4,By Ak4 nk4 ck4]) G fun g3 v4 nb=>?_))
 have mg:=nb.bk
 have oa:w.heap.size≤g3:=by rw [←nb.at_];exact (UpS.refl (S2 VA RA) w).size
 have li:∀p:a6,VA=some p→p.block≠g3:=fun p hp=>by have:=(hlv).block p hp;have:=nb.at_;omega
 have mf:∀p:a6,RA=some p→p.block≠g3:=fun p hp=>by have:=(hlr).block p hp;have:=nb.at_;omega
 have e5:=nb.ext
 clear nb
 have cd:UpS (S2 VA RA) w v4:=(UpS.refl (S2 VA RA) w).ext e5
 refine aE (sr (mv 1 G (pu (v:= AI N) G (mv 1 G (aE (bB ?_))))))
 refine d6 (T:=a0×Nat×List Int×List Int) (fun⟨wr,i,us,ts⟩=> [(0,By VA N vc),(1,By RA N rc),(2,.agg #[.bool sk1,By Ak1 nk1 ck1,.bool sk2,By Ak2 nk2 ck2,.bool sk3,By Ak3 nk3 ck3,.bool sk4,By Ak4 nk4 ck4]),(5,a9 g3 0),(9,By VA N vc),(10,AI N),(11,AI i)]) (fun⟨wr,i,us,ts⟩=>wr) (fun⟨wr,i,us,ts⟩=>(UpS (S2 VA RA) w wr)∧(i≤N)∧(Bk wr g3 124 [.bool sk1,By Ak1 nk1 ck1,.bool sk2,By Ak2 nk2 ck2,.bool sk3,By Ak3 nk3 ck3,.bool sk4,By Ak4 nk4 ck4])∧(Zr wr b_k1 sk1 Ak1 nk1 ck1 (x1))∧(Zr wr b_k2 sk2 Ak2 nk2 ck2 (x2))∧(Zr wr b_k3 sk3 Ak3 nk3 ck3 (x3))∧(Zr wr b_k4 sk4 Ak4 nk4 ck4 (x4))∧(lb≤wr.heap.size)∧(Lz none 68719476736 0 wr lb VA N vc us)∧(∀p:a6,VA=some p→p.block≠g3)∧(lbr≤wr.heap.size)∧(Lz none 68719476736 0 wr lbr RA N rc ts)∧(∀p:a6,RA=some p→p.block≠g3)∧(∀p q:a6,RA=some p→VA=some q→p.block≠q.block)∧(LaM x1 x2 vs rs i vs us)∧(LaM x3 x4 vs rs i rs ts)) (fun⟨wr,i,us,ts⟩=>N-i)
  (⟨v4,0,vs,rs⟩:a0×Nat×List Int×List Int) ⟨cd,(by omega),mg,(hk1.ext e5),(hk2.ext e5),(hk3.ext e5),(hk4.ext e5),(a7 hlb e5.size),(hlv.ext e5),li,(a7 hlbr e5.size),(hlr.ext e5),mf,(fun p q hp hq e=>hdi q p hq hp e.symm),(LaM.start x1 x2 vs rs vs),(LaM.start x3 x4 vs rs rs)⟩ G ⟨rfl,rfl,rfl,rfl,rfl,rfl,rfl,Ht⟩ ?_
 rintro⟨wr,i,us,ts⟩ ⟨cd,_,b_g3,z_g3_1,z_g3_2,z_g3_3,z_g3_4,l_VAb,l_VA,l_VA_g3,l_RAb,l_RA,l_RA_g3,d_l_RA_l_VA,hA,hB⟩
 refine d4 [(0,By VA N vc),(1,By RA N rc),(2,.agg #[.bool sk1,By Ak1 nk1 ck1,.bool sk2,By Ak2 nk2 ck2,.bool sk3,By Ak3 nk3 ck3,.bool sk4,By Ak4 nk4 ck4]),(5,a9 g3 0),(9,By VA N vc),(10,AI N),(11,AI i)] wr G ⟨rfl,rfl,rfl,rfl,rfl,rfl,rfl,Ht⟩ ?_
 have lf:=l_VA.block
 have mz:=l_RA.block
 refine aH ?_
 by_cases aw:i<N
 ·refine aL (aN G G G true (dB (a:=i) (b:=N) G G) (aE (aH (bJ G (bA (aM (aH (bB (sr (mv 2 G (aE (aH (bH [(0,By VA N vc),(1,By RA N rc),(2,.agg #[.bool sk1,By Ak1 nk1 ck1,.bool sk2,By Ak2 nk2 ck2,.bool sk3,By Ak3 nk3 ck3,.bool sk4,By Ak4 nk4 ck4]),(5,a9 g3 0),(9,By VA N vc),(10,AI N),(11,AI i),(12,BY),(13,AI i),(6,AI i)] ⟨rfl,rfl,rfl,rfl,rfl,rfl,rfl,rfl,rfl,rfl,Ht⟩ ?_)))))))))))))
  obtain⟨ba,ag,au,ao,ar,bj,fg,fr,gg⟩:=(l_VA).at (i:=i) (by omega)
  have bh:=gg.zr
  have dm:ln (us.getD i 0)≤68719476736:=bh.ln_le fr
  obtain⟨cj,ah,aj,ak,ai,fe,fj,ft,kb⟩:=(l_RA).at (i:=i) (by omega)
  have bg:=kb.zr
  have eh:ln (ts.getD i 0)≤68719476736:=bg.ln_le ft
  refine ES cF 41 [F0,S0] (a4 ag au ao ar) (a4 ah aj ak ai) 8 10 3 9 11 7 [By VA N vc,AI i,.pointer (some ba),O ag au ao ar,By RA N rc,AI i,.pointer (some cj),O ah aj ak ai,undef,undef,undef,undef] [0,1,2,3,4,5,6,7] [[],[],[0,1],[2],[],[],[4,5],[6],[],[],[],[]] [[],[],[0,1],[0,1,2],[],[],[4,5],[4,5,6],[],[],[0,1,2,3,8,9],[0,1,2,3,4,5,6,7,8,9,10]] [(0,0),(0,1),(0,2),(1,0),(1,1),(1,2),(2,0),(2,1),(2,2),(3,0),(3,1),(3,2),(4,0),(4,1),(4,2),(5,0),(5,1),(5,2),(6,0),(6,1),(6,2),(7,0),(7,1),(7,2),(8,0),(8,1),(8,2),(9,0),(9,1),(9,2),(10,0),(10,1),(10,2),(11,0),(11,1),(11,2)] G G (tJ G (z:= .agg #[F0,S0]) (fun _=>by kernel_rfl) G) (tJ G (z:= .agg #[F0,S0]) (fun _=>by kernel_rfl) G) (tT G G G G (fun _ _=>rfl) (fun _ _=>rfl) aG G G G) (tT G G G G (fun _ _=>rfl) (fun _ _=>rfl) aG G G G) ?_ ?_
  ·refine eE G G G (fun _ _=>(dJ G)) (eE G G G (fun _ _=>(dJ G)) (eE G G G (fun _ _=>(fH G G bM aG.size i G ba bj)) (eE G G G (fun _ lu=>(cN G (fg _ lu _ _ aG))) (eE G G G (fun _ _=>(dJ G)) (eE G G G (fun _ _=>(dJ G)) (eE G G G (fun _ _=>(fH G G bM aG.size i G cj fe)) (eE G G G (fun _ lh=>(cN G (fj _ lh _ _ aG))) ?_)))))))
   exact trivial
  ·intro cu dc ky I _ bc bi ee ez
   have ob:g3<cu:=cJ b_g3.lt bc
   have kc:∀p:a6,VA=some p→p.block≠cu:=fun p hp=>by have:=(l_VA).block p hp;have:=bc;omega
   have nw:∀p:a6,RA=some p→p.block≠cu:=fun p hp=>by have:=(l_RA).block p hp;have:=bc;omega
   have bc:w.heap.size≤cu:=a7 cd.size bc
   have nx:g3<dc:=cJ b_g3.lt bi
   have gw:∀p:a6,VA=some p→p.block≠dc:=fun p hp=>by have:=(l_VA).block p hp;have:=bi;omega
   have nu:∀p:a6,RA=some p→p.block≠dc:=fun p hp=>by have:=(l_RA).block p hp;have:=bi;omega
   have bi:w.heap.size≤dc:=a7 cd.size bi
   have ae:UpS (S2 VA RA) w ky:=cd.ext I
   refine kA [(0,By VA N vc),(1,By RA N rc),(2,.agg #[.bool sk1,By Ak1 nk1 ck1,.bool sk2,By Ak2 nk2 ck2,.bool sk3,By Ak3 nk3 ck3,.bool sk4,By Ak4 nk4 ck4]),(5,a9 g3 0),(9,By VA N vc),(10,AI N),(11,AI i),(12,BY),(13,AI i),(6,AI i),(14,By VA N vc),(15,AI i),(16,.pointer (some ba)),(17,O ag au ao ar),(18,By RA N rc),(19,AI i),(20,.pointer (some cj)),(21,O ah aj ak ai),(7,a9 cu 0),(8,a9 dc 0)] ⟨rfl,rfl,rfl,rfl,rfl,rfl,rfl,rfl,rfl,rfl,rfl,rfl,rfl,rfl,rfl,rfl,rfl,rfl,rfl,rfl,Ht⟩ (aM (aH ?_))
   have mb:ln (x2*(ts.getD i 0))≤68719476736:=by rw [hB.2 i (aI _)];exact hq2 i aw
   have kz:ln (x1*(us.getD i 0)+(x2*(ts.getD i 0)))≤68719476736:=(by rw [hA.2 i (aI _),hB.2 i (aI _)];exact hb1 i aw)
   refine dP cF 13 [] [Is (By VA N vc),Is (AI i),Is (a9 g3 0),Is (a9 g3 0),Is (O sk1 Ak1 nk1 ck1),Is (O ag au ao ar),Is (a9 g3 0),Is (a9 g3 2),Is (O sk2 Ak2 nk2 ck2),Is (O ah aj ak ai),ZR w.heap.size (x2*(ts.getD i 0)),ZR w.heap.size (x1*(us.getD i 0)+(x2*(ts.getD i 0))),Is (.pointer (some ba))] [[],[],[],[2],[3],[],[],[6],[7],[],[8,9],[4,5,10],[0,1]] [[],[],[],[2],[2,3],[],[],[6],[6,7],[],[6,7,8,9],[2,3,4,5,6,7,8,9,10],[0,1,2,3,4,5,6,7,8,9,10,11],[0,1,2,3,4,5,6,7,8,9,10,11,12]] rfl
    (aD G G (aA G G ?_) (aD G G (aA G G ?_) (aD G G (aA G G ?_) (aD G G (aA G G ?_) (aD G G (aA G G ?_) (aD G G (aA G G ?_) (aD G G (aA G G ?_) (aD G G (aA G G ?_) (aD G G (aA G G ?_) (aD G G (aA G G ?_) (aD G G (aA G G ?_) (aD G G (aA G G ?_) (aD G G (aA G G ?_) dF))))))))))))) ?_
   ·intro mn lw
    have aa:UpS (S2 VA RA) w mn:=ae.ext lw
    refine a8 (mv 1 G ?_)
    exact aC G aB rfl
   ·intro mq ml
    have aa:UpS (S2 VA RA) w mq:=ae.ext ml
    refine a8 (mv 1 G ?_)
    exact aC G aB rfl
   ·intro ll my
    have aa:UpS (S2 VA RA) w ll:=ae.ext my
    refine a8 (pf g3 0 G ?_)
    exact aC G aB rfl
   ·intro me mj
    have aa:UpS (S2 VA RA) w me:=ae.ext mj
    refine dk G G (a8 (pf g3 0 G ?_))
    exact aC G aB rfl
   ·intro ma kt
    have aa:UpS (S2 VA RA) w ma:=ae.ext kt
    refine dk G G (a8 (lo aG (b_g3.ext (I.t kt)) (a4 sk1 Ak1 nk1 ck1) G G G ?_))
    exact aC G aB rfl
   ·intro mh kv
    have aa:UpS (S2 VA RA) w mh:=ae.ext kv
    refine a8 (lo aG (ee.ext kv) (a4 ag au ao ar) G G G ?_)
    exact aC G aB rfl
   ·intro mc mx
    have aa:UpS (S2 VA RA) w mc:=ae.ext mx
    refine a8 (pf g3 0 G ?_)
    exact aC G aB rfl
   ·intro nd mw
    have aa:UpS (S2 VA RA) w nd:=ae.ext mw
    refine dk G G (a8 (pf g3 2 G ?_))
    exact aC G aB rfl
   ·intro mt ic
    have aa:UpS (S2 VA RA) w mt:=ae.ext ic
    refine dk G G (a8 (lo aG (b_g3.ext (I.t ic)) (a4 sk2 Ak2 nk2 ck2) G G G ?_))
    exact aC G aB rfl
   ·intro lm ia
    have aa:UpS (S2 VA RA) w lm:=ae.ext ia
    refine a8 (lo aG (ez.ext ia) (a4 ah aj ak ai) G G G ?_)
    exact aC G aB rfl
   ·intro mr fh
    have aa:UpS (S2 VA RA) w mr:=ae.ext fh
    refine dk G G (dk G G (a8 ?_))
    have nm:ln (x2*(ts.getD i 0))≤68719476736:=by rw [hB.2 i (aI _)];exact hq2 i aw
    refine bR G G (vs:= [O sk2 Ak2 nk2 ck2,O ah aj ak ai]) (by kernel_rfl) (by decide) (iU aa.size (z_g3_2.ext (I.t fh)).zi (z_g3_2.le (aZ Lk2 G)) (bg.ext (I.t fh)).zi (bg.le (aZ eh G))) ?_
    rintro _ ge ⟨_,rfl,ix,du⟩
    refine bL ?_
    have ab:UpS (S2 VA RA) w ge:=aa.ext du
    obtain⟨_,_,_,_,rfl,kp⟩:=ix
    exact aC G du ⟨_,_,_,_,rfl,kp⟩
   ·intro iq cx
    have aa:UpS (S2 VA RA) w iq:=ae.ext cx
    refine dk G G (dk G G (aT G G fun _ _ ir _ jq=>?_))
    obtain⟨jd,jg,gj,ik,rfl,bu⟩:=ir
    have bu:=bu.ext jq
    refine a8 ?_
    have ni:ln (x1*(us.getD i 0)+(x2*(ts.getD i 0)))≤68719476736:=(by rw [hA.2 i (aI _),hB.2 i (aI _)];exact hb1 i aw)
    refine bR G G (vs:= [O sk1 Ak1 nk1 ck1,O ag au ao ar,O jd jg gj ik]) (by kernel_rfl) (by decide) (xX aa.size (z_g3_1.ext (I.t cx)).zi (z_g3_1.le (aZ Lk1 G)) (bh.ext (I.t cx)).zi (bh.le (aZ dm G)) bu.zi (bu.le (aZ mb G))) ?_
    rintro _ ks ⟨_,rfl,ie,ew⟩
    refine bL ?_
    have ab:UpS (S2 VA RA) w ks:=aa.ext ew
    obtain⟨_,_,_,_,rfl,jr⟩:=ie
    exact aC G ew ⟨_,_,_,_,rfl,jr⟩
   ·intro kx iy
    have aa:UpS (S2 VA RA) w kx:=ae.ext iy
    refine dk G G (dk G G (a8 (aX G G G bM aG.size i G ba bj ?_)))
    exact aC G aB rfl
   ·intro ii o
    have aa:UpS (S2 VA RA) w ii:=ae.ext o
    refine dk G G (dk G G (dk G G (dk G G (dk G G (dk G G (dk G G (dk G G (dk G G (dk G G (aT G G fun _ _ jx _ im=>?_))))))))))
    obtain⟨_,_,_,_,rfl,eg⟩:=jx
    have eg:=eg.ext im
    refine aT G G fun _ _ jf _ jh=>?_
    obtain⟨fz,ke,iz,fx,rfl,bw⟩:=jf
    have bw:=bw.ext jh
    refine dk G G (a8 ?_)
    have cz:=(l_VA.ext (I.t o))
    obtain⟨_,H⟩:=cz.own
    refine kL (e:=⟨fz,ke,iz,fx⟩) (z:=x1*(us.getD i 0)+(x2*(ts.getD i 0))) G G G bj cz (bE (bw.mono (bX _))) (bw.le (aZ kz G)) fun em fk h=>?_
    have ab:UpS (S2 VA RA) w em:=aa.trans (UpS.of_updO h fun p hp=>bE ⟨p,hp,rfl⟩)
    have cf:lb≤em.heap.size:=a7 (a7 (a7 l_VAb I.size) o.size) h.size
    refine aS (dA (aM ?_))
    have iw:ln (x4*(ts.getD i 0))≤68719476736:=by rw [hB.2 i (aI _)];exact hq4 i aw
    have jj:ln (x3*(us.getD i 0)+(x4*(ts.getD i 0)))≤68719476736:=(by rw [hA.2 i (aI _),hB.2 i (aI _)];exact hb2 i aw)
    obtain⟨da,_,_,_,_,bz,_,dh,fq⟩:=(((l_RA.ext (I.t o)).updO H h (fun p q hp hq e=>d_l_RA_l_VA q p hq hp e.symm))).at (i:=i) (by omega)
    have fd:=fq.zr
    have lj:ln (ts.getD i 0)≤68719476736:=fd.ln_le dh
    refine dP cF 13 [] [Is (By RA N rc),Is (AI i),Is (a9 g3 4),Is (a9 g3 4),Is (O sk3 Ak3 nk3 ck3),Is (O ag au ao ar),Is (a9 g3 4),Is (a9 g3 6),Is (O sk4 Ak4 nk4 ck4),Is (O ah aj ak ai),ZR w.heap.size (x4*(ts.getD i 0)),ZR w.heap.size (x3*(us.getD i 0)+(x4*(ts.getD i 0))),Is (.pointer (some da))] [[],[],[],[2],[3],[],[],[6],[7],[],[8,9],[4,5,10],[0,1]] [[],[],[],[2],[2,3],[],[],[6],[6,7],[],[6,7,8,9],[2,3,4,5,6,7,8,9,10],[0,1,2,3,4,5,6,7,8,9,10,11],[0,1,2,3,4,5,6,7,8,9,10,11,12]] rfl
     (aD G G (aA G G ?_) (aD G G (aA G G ?_) (aD G G (aA G G ?_) (aD G G (aA G G ?_) (aD G G (aA G G ?_) (aD G G (aA G G ?_) (aD G G (aA G G ?_) (aD G G (aA G G ?_) (aD G G (aA G G ?_) (aD G G (aA G G ?_) (aD G G (aA G G ?_) (aD G G (aA G G ?_) (aD G G (aA G G ?_) dF))))))))))))) ?_
    ·intro gc kk
     have U:UpS (S2 VA RA) w gc:=ab.ext kk
     refine a8 (mv 1 G ?_)
     exact aC G aB rfl
    ·intro jn kq
     have U:UpS (S2 VA RA) w jn:=ab.ext kq
     refine a8 (mv 1 G ?_)
     exact aC G aB rfl
    ·intro iu iv
     have U:UpS (S2 VA RA) w iu:=ab.ext iv
     refine a8 (pf g3 4 G ?_)
     exact aC G aB rfl
    ·intro fv jb
     have U:UpS (S2 VA RA) w fv:=ab.ext jb
     refine dk G G (a8 (pf g3 4 G ?_))
     exact aC G aB rfl
    ·intro kj dl
     have U:UpS (S2 VA RA) w kj:=ab.ext dl
     refine dk G G (a8 (lo aG (((b_g3.ext (I.t o)).updO h l_VA_g3).ext dl) (a4 sk3 Ak3 nk3 ck3) G G G ?_))
     exact aC G aB rfl
    ·intro gn dn
     have U:UpS (S2 VA RA) w gn:=ab.ext dn
     refine a8 (lo aG (((ee.ext o).updO h kc).ext dn) (a4 ag au ao ar) G G G ?_)
     exact aC G aB rfl
    ·intro ji ko
     have U:UpS (S2 VA RA) w ji:=ab.ext ko
     refine a8 (pf g3 4 G ?_)
     exact aC G aB rfl
    ·intro ig jo
     have U:UpS (S2 VA RA) w ig:=ab.ext jo
     refine dk G G (a8 (pf g3 6 G ?_))
     exact aC G aB rfl
    ·intro ij ey
     have U:UpS (S2 VA RA) w ij:=ab.ext ey
     refine dk G G (a8 (lo aG (((b_g3.ext (I.t o)).updO h l_VA_g3).ext ey) (a4 sk4 Ak4 nk4 ck4) G G G ?_))
     exact aC G aB rfl
    ·intro jz dq
     have U:UpS (S2 VA RA) w jz:=ab.ext dq
     refine a8 (lo aG (((ez.ext o).updO h gw).ext dq) (a4 ah aj ak ai) G G G ?_)
     exact aC G aB rfl
    ·intro jp cm
     have U:UpS (S2 VA RA) w jp:=ab.ext cm
     refine dk G G (dk G G (a8 ?_))
     have nt:ln (x4*(ts.getD i 0))≤68719476736:=by rw [hB.2 i (aI _)];exact hq4 i aw
     refine bR G G (vs:= [O sk4 Ak4 nk4 ck4,O ah aj ak ai]) (by kernel_rfl) (by decide) (iU U.size (((z_g3_4.ext (I.t o)).updOT H h).ext cm).zi (z_g3_4.le (aZ Lk4 G)) (((bg.ext (I.t o)).updOT H h).ext cm).zi (bg.le (aZ eh G))) ?_
     rintro _ jw ⟨_,rfl,jk,ep⟩
     refine bL ?_
     have fb:UpS (S2 VA RA) w jw:=U.ext ep
     obtain⟨_,_,_,_,rfl,ju⟩:=jk
     exact aC G ep ⟨_,_,_,_,rfl,ju⟩
    ·intro ja cn
     have U:UpS (S2 VA RA) w ja:=ab.ext cn
     refine dk G G (dk G G (aT G G fun _ _ jv _ jt=>?_))
     obtain⟨kw,jy,ki,ku,rfl,bo⟩:=jv
     have bo:=bo.ext jt
     refine a8 ?_
     have ng:ln (x3*(us.getD i 0)+(x4*(ts.getD i 0)))≤68719476736:=(by rw [hA.2 i (aI _),hB.2 i (aI _)];exact hb2 i aw)
     refine bR G G (vs:= [O sk3 Ak3 nk3 ck3,O ag au ao ar,O kw jy ki ku]) (by kernel_rfl) (by decide) (xX U.size (((z_g3_3.ext (I.t o)).updOT H h).ext cn).zi (z_g3_3.le (aZ Lk3 G)) (((bh.ext (I.t o)).updOT H h).ext cn).zi (bh.le (aZ dm G)) bo.zi (bo.le (aZ iw G))) ?_
     rintro _ gy ⟨_,rfl,je,dy⟩
     refine bL ?_
     have fb:UpS (S2 VA RA) w gy:=U.ext dy
     obtain⟨_,_,_,_,rfl,jm⟩:=je
     exact aC G dy ⟨_,_,_,_,rfl,jm⟩
    ·intro fy gt
     have U:UpS (S2 VA RA) w fy:=ab.ext gt
     refine dk G G (dk G G (a8 (aX G G G bM aG.size i G da bz ?_)))
     exact aC G aB rfl
    ·intro ka ac
     have U:UpS (S2 VA RA) w ka:=ab.ext ac
     refine dk G G (dk G G (dk G G (dk G G (dk G G (dk G G (dk G G (dk G G (dk G G (dk G G (aT G G fun _ _ il _ jl=>?_))))))))))
     obtain⟨_,_,_,_,rfl,fa⟩:=il
     have fa:=fa.ext jl
     refine aT G G fun _ _ gx _ ib=>?_
     obtain⟨gk,kg,io,ip,rfl,bv⟩:=gx
     have bv:=bv.ext ib
     refine dk G G (a8 ?_)
     have co:=(((l_RA.ext (I.t o)).updO H h (fun p q hp hq e=>d_l_RA_l_VA q p hq hp e.symm)).ext ac)
     obtain⟨_,aq⟩:=co.own
     refine kL (e:=⟨gk,kg,io,ip⟩) (z:=x3*(us.getD i 0)+(x4*(ts.getD i 0))) G G G bz co (bE (bv.mono (bX _))) (bv.le (aZ jj G)) fun dd fo J=>?_
     have fb:UpS (S2 VA RA) w dd:=U.trans (UpS.of_updO J fun p hp=>bK ⟨p,hp,rfl⟩)
     have ce:lbr≤dd.heap.size:=a7 (a7 (a7 (a7 (a7 l_RAb I.size) o.size) h.size) ac.size) J.size
     refine aS (dA (cC (aM (aL (bC G G G ((i+1:Nat):Int) (bW (a:=i) (b:=1) G G) (mv 1 G (aS (cB (⟨dd,i+1,us.set i (x1*(us.getD i 0)+(x2*(ts.getD i 0))),ts.set i (x3*(us.getD i 0)+(x4*(ts.getD i 0)))⟩:a0×Nat×List Int×List Int) ⟨fb,(by omega),((((b_g3.ext (I.t o)).updO h l_VA_g3).ext ac).updO J l_RA_g3),((((z_g3_1.ext (I.t o)).updOT H h).ext ac).updOT aq J),((((z_g3_2.ext (I.t o)).updOT H h).ext ac).updOT aq J),((((z_g3_3.ext (I.t o)).updOT H h).ext ac).updOT aq J),((((z_g3_4.ext (I.t o)).updOT H h).ext ac).updOT aq J),(a7 (a7 cf ac.size) J.size),((fk.ext ac).updO aq J d_l_RA_l_VA),l_VA_g3,ce,fo,l_RA_g3,d_l_RA_l_VA,(hA.next (by rw [l_VA.len];exact aw) (hA.2 i (aI _)) (hB.2 i (aI _))),(hB.next (by rw [l_RA.len];exact aw) (hA.2 i (aI _)) (hB.2 i (aI _)))⟩ (show N-(i+1)<N-i by omega) G ⟨rfl,rfl,rfl,rfl,rfl,rfl,rfl,Ht⟩))))))))
 ·refine aL (aN G G G false (dK (a:=i) (b:=N) G G) (aE (aH (aY G (cM (cK (cT (cL (iW [] G Ht ?_)))))))))
  exact⟨us,ts,rfl,l_VA,l_RA,(fun b hb=>hA.1 b (by omega)),(fun b hb=>hB.1 b (by omega)),cd⟩
theorem O4 {np capp:Nat}{ps:List Int}(hxp:ZF w Ap np capp 68719476736 ps)(hnp:np≤1048576):aR aJ 89 #[By Ap np capp] w (Gv w (Is (AI ((ldr np (fun j=>ps.getD j 0):Nat):Int)))):=by
 obtain⟨msp,ba,ai⟩:=hxp
 refine bQ Tryz.func89 G (n:=19) G (bq G) (args:= [By Ap np capp]) (bH [(0,By Ap np capp)] ⟨rfl,Ht⟩ (sr (mv 1 G (aE (aH (sr (mv 1 G (pu (v:= AI np) G (mv 1 G (aE (bB ?_)))))))))))
 refine d6 (T:=a0×Nat) (fun⟨wr,i⟩=> [(0,By Ap np capp),(2,AI 0),(5,By Ap np capp),(6,AI np),(7,AI i)]) (fun⟨wr,i⟩=>wr) (fun⟨wr,i⟩=>(Ext w wr)∧(i≤np)∧(∀j,j<i→ps.getD j 0=0)) (fun⟨wr,i⟩=>np-i)
  (⟨w,0⟩:a0×Nat) ⟨aB,(by omega),(fun j h=>absurd h (Nat.not_lt_zero j))⟩ G ⟨rfl,rfl,rfl,rfl,rfl,Ht⟩ ?_
 rintro⟨wr,i⟩ ⟨ab,_,hz⟩
 refine d4 [(0,By Ap np capp),(2,AI 0),(5,By Ap np capp),(6,AI np),(7,AI i)] wr G ⟨rfl,rfl,rfl,rfl,rfl,Ht⟩ (aH ?_)
 by_cases av:i<np
 ·refine aL (aN G G G true (dB (a:=i) (b:=np) G G) (aE (aH (bJ G (bA (aM (aH (bB (sr (mv 1 G ?_))))))))))
  obtain⟨aw,H,o,I,ah,ag,ac⟩:=ba.at (i:=i) (by omega)
  refine aX G G G bM aG.size i G aw ah (aK G G (ag _ ab _ _ aG) (al [F0,S0] ab (fun _=>by kernel_rfl) G fun _ _ ar ak _ aq=>(mv 1 G (so aG ar [.bool H,By o (msp.getD i 0) I] aq ak G G G G fun _ ae _ J=>(aE (aH ?_))))))
  by_cases U:ps.getD i 0=0
  ·refine aL (lo aG ae [.bool H,By o (msp.getD i 0) I] G G G (cl (vs:= [.agg #[.bool H,By o (msp.getD i 0) I]]) J (f8 (ac.ext J) (a7 (ai i) (by decide))) G (by kernel_rfl) fun _ ao az _ aa=>?_))
   obtain rfl:=az
   refine aN G G G false (pY U) (aE (aY G (bA (cC (aM (aL (bC G G G ((i+1:Nat):Int) (bW (a:=i) (b:=1) G G) (mv 1 G (aS (cB (⟨ao,i+1⟩:a0×Nat) ⟨aa,(by omega),(fun j hj=>if h9:j<i then hz j h9 else (show i=j by omega)▸U)⟩ (show np-(i+1)<np-i by omega) G ⟨rfl,rfl,rfl,rfl,rfl,Ht⟩))))))))))
  ·refine aL (lo aG ae [.bool H,By o (msp.getD i 0) I] G G G (cl (vs:= [.agg #[.bool H,By o (msp.getD i 0) I]]) J (f8 (ac.ext J) (a7 (ai i) (by decide))) G (by kernel_rfl) fun _ _ aj _ aa=>?_))
   obtain rfl:=aj
   refine aN G G G true (pX U) (aE (bJ G (sr (mv 2 G (aE (bG (kQ (dZ (qX (kQ (dZ (bF [AI i] G ⟨rfl,Ht⟩ ?_))))))))))))
   rw [show ldr np (fun j=>ps.getD j 0)=i from lG hz av U]
   exact⟨_,rfl,rfl,aa⟩
 ·refine aL (aN G G G false (dK (a:=i) (b:=np) G G) (aE (aH (aY G (cM (cK (cT (cL (aM (sr (mv 1 G (pu (v:= AI np) G (mv 1 G ?_)))))))))))))
  refine aE (bG (bF [AI np] G ⟨rfl,Ht⟩ ?_))
  rw [show ldr np (fun j=>ps.getD j 0)=np from DB fun j hj=>hz j (by omega)]
  exact⟨_,rfl,rfl,ab⟩
theorem NR {ra:Nat→Option a6}{rc:Nat→Nat}(_hlb:lb≤w.heap.size)(_hA:Ap2 n RA ra)(hR:Own w lb 22 1 RA n rcap (ps.map (dW ra rc cc)))(_hC:Rcs 68719476736 lb n cc ra rc w Z)(_hcc:cc≤64)(_hPer:Per n ps)(hgr:Bk w gr 54 [By RA n rcap])(_hnr:∀r,r<n→∀p:a6,ra r=some p→p.block≠gr)(hnR:∀p:a6,RA=some p→p.block≠gr)(hi2:i<n)(hj2:j<n):aR aJ 83 #[AI i,AI j,a9 gr 0] w (fun e w'=>e= .returned (.tuple #[])∧Own w' lb 22 1 RA n rcap ((swp ps i j).map (dW ra rc cc))∧UpdO RA w w'):=by
 have bh:=hR.rv.le
 refine bQ Tryz.func83 G (n:=19) G (bq G) (args:= [AI i,AI j,a9 gr 0]) ?_
 have aq:=hgr.lt
 refine bH [(0,AI i),(1,AI j),(2,a9 gr 0)] ⟨rfl,rfl,rfl,Ht⟩ (bH [(0,AI i),(1,AI j),(2,a9 gr 0)] ⟨rfl,rfl,rfl,Ht⟩ ?_)
 obtain⟨v1,hv,I⟩:∃v,v=w.drew∧Ext w v:=⟨_,rfl,(Ext.refl _).drew⟩
 have ar:UpdO RA w v1:=UO.ext (UO.refl RA w) I
 obtain⟨ah,ac,ai⟩:=((hR.ext I)).rowAt (i:=j) (by omega)
 obtain⟨H,o,aj⟩:=((hR.ext I)).rowAt (i:=i) (by omega)
 have aw:=(hR.ext I)
 obtain⟨v6,ba,U,ao⟩:=sY aw o (ps.getD j 0)
 have av:UpdO RA w v6:=UO.trans ar ao
 obtain⟨J,h,_⟩:=(U).rowAt (i:=j) (by omega)
 have ak:=U
 obtain⟨ab,ag,aa,ae⟩:=sY ak h (ps.getD i 0)
 have au:UpdO RA w ab:=UO.trans av ae
 refine lK cF (w:=v1) [By RA n rcap,AI i,By RA n rcap,AI j,By RA n rcap,AI j,.pointer (some ah),By (ra (ps.getD j 0)) cc (rc (ps.getD j 0)),By RA n rcap,AI i,.pointer (some H),By (ra (ps.getD i 0)) cc (rc (ps.getD i 0)),.pointer (some H),undef,.pointer (some J),undef] [v1,v6,ab] [13,15] [[],[],[],[],[],[],[4,5],[6],[],[],[8,9],[10],[0,1],[7,12],[2,3],[11,14]] [[],[],[],[],[],[],[4,5],[4,5,6],[],[],[8,9],[8,9,10],[0,1,4,5,6,7,8,9,10,11],[0,1,4,5,6,7,8,9,10,11,12],[0,1,2,3,4,5,6,7,8,9,10,11,12,13],[0,1,2,3,4,5,6,7,8,9,10,11,12,13,14]] [(0,0),(1,0),(2,0),(2,1),(3,0),(3,1),(4,0),(5,0),(6,0),(7,0),(8,0),(9,0),(10,0),(11,0),(12,0),(13,0),(14,1),(15,1)] G hv ?_ ?_
 ·refine aW _ G G G G G (cN G (aQ cG (hgr.ext I) G)) (aW _ G G G G G (dJ G) (aW _ G G G G G (cN G (aQ cG (hgr.ext I) G)) (aW _ G G G G G (cN G (aQ cG ((hgr.ext I).updO ao hnR) G)) (aW _ G G G G G (dJ G) (aW _ G G G G G (dJ G) (aW _ G G G G G (cN G (aQ cG (hgr.ext I) G)) (aW _ G G G G G (dJ G) (aW _ G G G G G (fH G G d9 cV j G ah ac) (aW _ G G G G G (cN G (cP cD ai)) (aW _ G G G G G (cN G (aQ cG (hgr.ext I) G)) (aW _ G G G G G (dJ G) (aW _ G G G G G (fH G G d9 cV i G H o) (aW _ G G G G G (cN G (cP cD aj)) ?_)))))))))))))
  refine aW _ G G G G G (fH G G d9 cV i G H o) (gU _ G G G G G (gG G G ba) (aW _ G G G G G (fH G G d9 cV j G J h) (gU _ G G G G G (gG G G ag) ?_)))
  exact lJ
 clear hv
 refine kA [] Ht (iW [] G Ht ?_)
 exact⟨rfl,aa,au⟩
theorem NQ {ra:Nat→Option a6}{rc:Nat→Nat}(_hlb:lb≤w.heap.size)(hA:Ap2 n RA ra)(hR:Own w lb 22 1 RA n rcap (ps.map (dW ra rc cc)))(hC:Rcs 68719476736 lb n cc ra rc w Z)(hcc:cc≤64)(hPer:Per n ps)(hgr:Bk w gr 54 [By RA n rcap])(hnr:∀r,r<n→∀p:a6,ra r=some p→p.block≠gr)(_hnR:∀p:a6,RA=some p→p.block≠gr)(hi2:i<n):aR aJ 84 #[AI i,a9 gr 0] w (fun e w'=>e= .returned (.tuple #[])∧(∃Y,Rcs 68719476736 lb n cc ra rc w' Y∧∀a b,a<n→b<cc→Y (ps.getD a 0) b=if a=i∧b<cc then-Z (ps.getD i 0) b else Z (ps.getD a 0) b)∧UpdO (ra (ps.getD i 0)) w w'):=by
 have fh:=hR.rv.le
 refine bQ Tryz.func84 G (n:=24) G (bq G) (args:= [AI i,a9 gr 0]) ?_
 have da:=hgr.lt
 refine bH [(0,AI i),(1,a9 gr 0)] ⟨rfl,rfl,Ht⟩ (sr (aK G G (aQ cG hgr G) (mv 1 G ?_)))
 obtain⟨bg,bz,cd⟩:=(hR).rowAt (i:=i) (by omega)
 refine aX G G G d9 cV i G bg bz (aK G G (cP cD cd) (pu (v:= AI cc) G (mv 1 G (aE (bB ?_)))))
 refine d6 (T:=a0×Nat×Mx) (fun⟨wr,c,Y⟩=> [(0,AI i),(1,a9 gr 0),(5,By RA n rcap),(6,AI i),(7,.pointer (some bg)),(8,By (ra (ps.getD i 0)) cc (rc (ps.getD i 0))),(9,AI cc),(10,AI c)]) (fun⟨wr,c,Y⟩=>wr) (fun⟨wr,c,Y⟩=>(UpdO (ra (ps.getD i 0)) w wr)∧(c≤cc)∧(Own wr lb 22 1 RA n rcap (ps.map (dW ra rc cc)))∧(Rcs 68719476736 lb n cc ra rc wr Y)∧(∀a b,a<n→b<cc→Y (ps.getD a 0) b=if a=i∧b<c then-Z (ps.getD i 0) b else Z (ps.getD a 0) b)) (fun⟨wr,c,Y⟩=>cc-c)
  (⟨w,0,Z⟩:a0×Nat×Mx) ⟨(UO.refl (ra (ps.getD i 0)) w),(by omega),hR,hC,(fun a b _ _=>by rw [if_neg (by omega)])⟩ G ⟨rfl,rfl,rfl,rfl,rfl,rfl,rfl,rfl,Ht⟩ ?_
 rintro⟨wr,c,Y⟩ ⟨U,_,o_RAwr,rc_wr,hY⟩
 refine d4 [(0,AI i),(1,a9 gr 0),(5,By RA n rcap),(6,AI i),(7,.pointer (some bg)),(8,By (ra (ps.getD i 0)) cc (rc (ps.getD i 0))),(9,AI cc),(10,AI c)] wr G ⟨rfl,rfl,rfl,rfl,rfl,rfl,rfl,rfl,Ht⟩ (aH ?_)
 by_cases dl:c<cc
 ·refine aL (aN G G G true (dB (a:=c) (b:=cc) G G) (aE (aH (bJ G (bA (aM (aH (bB (sr (mv 1 G ?_))))))))))
  obtain⟨fe,ah,ak,aj,ag,bi,cf,ae,ab⟩:=(rc_wr).at (hPer.lt i (by omega)) (show c<cc by omega)
  refine aX G G G bM aG.size c G fe bi (aK G G (cf _ aB _ _ aG) (dM G (z:= .agg #[F0,S0]) (vs:= [F0,S0]) (fun _=>by kernel_rfl) G fun g3 v4 nb=>?_))
  have ai:=nb.bk
  have eh:w.heap.size≤g3:=by rw [←nb.at_];exact U.size
  have q8:gr<g3:=by rw [←nb.at_];exact (hgr.updO U (hnr (ps.getD i 0) (hPer.lt i hi2))).lt
  have bj:∀p:a6,RA=some p→p.block≠g3:=fun p hp=>by have:=((o_RAwr).block p hp).2;have:=nb.at_;omega
  have ao:∀r,r<n→∀p:a6,ra r=some p→p.block≠g3:=fun r hr p hp=>by have:=((rc_wr).lt r hr p hp).2;have:=nb.at_;omega
  have e5:=nb.ext
  clear nb
  have dm:UpdO (ra (ps.getD i 0)) w v4:=UO.ext U e5
  refine mv 1 G (fC G G G aG G ai (bq G) G (a4 ah ak aj ag) G fun ee cu H _=>?_)
  have o:UpdO (ra (ps.getD i 0)) w ee:=UO.upd dm H eh
  refine aE ?_
  obtain⟨aq,az,ba⟩:=(((o_RAwr.ext e5).upd H bj)).rowAt (i:=i) (by omega)
  have du:ln (-(Y (ps.getD i 0) c))≤68719476736:=(by rw [gL];exact (ab.ln_le ae))
  obtain⟨au,_,_,_,_,ac,_,_,_⟩:=(((rc_wr.ext e5).updT ai H ao)).at (hPer.lt i (by omega)) (show c<cc by omega)
  refine dP cF 8 [] [Is (By RA n rcap),Is (AI i),Is (.pointer (some aq)),Is (By (ra (ps.getD i 0)) cc (rc (ps.getD i 0))),Is (AI c),Is (O ah ak aj ag),ZR w.heap.size (-(Y (ps.getD i 0) c)),Is (.pointer (some au))] [[],[],[0,1],[2],[],[],[5],[3,4]] [[],[],[0,1],[0,1,2],[],[],[5],[0,1,2,3,4,5,6],[0,1,2,3,4,5,6,7]] rfl
   (aD G G (aA G G ?_) (aD G G (aA G G ?_) (aD G G (aA G G ?_) (aD G G (aA G G ?_) (aD G G (aA G G ?_) (aD G G (aA G G ?_) (aD G G (aA G G ?_) (aD G G (aA G G ?_) dF)))))))) ?_
  ·intro ep cz
   have h:UpdO (ra (ps.getD i 0)) w ep:=UO.ext o cz
   refine a8 (aK G G (aQ cG ((((hgr.updO U (hnr (ps.getD i 0) (hPer.lt i hi2))).ext e5).vN H).ext cz) G) ?_)
   exact aC G aB rfl
  ·intro fa fb
   have h:UpdO (ra (ps.getD i 0)) w fa:=UO.ext o fb
   refine a8 (mv 1 G ?_)
   exact aC G aB rfl
  ·intro dy fg
   have h:UpdO (ra (ps.getD i 0)) w dy:=UO.ext o fg
   refine dk G G (dk G G (a8 (aX G G G d9 cV i G aq az ?_)))
   exact aC G aB rfl
  ·intro fd cn
   have h:UpdO (ra (ps.getD i 0)) w fd:=UO.ext o cn
   refine dk G G (a8 (aK G G (cP cD (cn.cell ba)) ?_))
   exact aC G aB rfl
  ·intro ey dh
   have h:UpdO (ra (ps.getD i 0)) w ey:=UO.ext o dh
   refine a8 (mv 1 G ?_)
   exact aC G aB rfl
  ·intro eg bw
   have h:UpdO (ra (ps.getD i 0)) w eg:=UO.ext o bw
   refine a8 (lo aG (cu.ext bw) (a4 ah ak aj ag) G G G ?_)
   exact aC G aB rfl
  ·intro em co
   have h:UpdO (ra (ps.getD i 0)) w em:=UO.ext o co
   refine dk G G (a8 ?_)
   have fk:ln (-(Y (ps.getD i 0) c))≤68719476736:=(by rw [gL];exact (ab.ln_le ae))
   refine bR G G (vs:= [O ah ak aj ag]) (by kernel_rfl) (by decide) (oW h.size (((ab.ext e5).updT ai H).ext co).zi (ab.le (a7 (ab.ln_le ae) (by decide)))) ?_
   rintro _ dn ⟨_,rfl,dq,bo⟩
   refine bL ?_
   have cx:UpdO (ra (ps.getD i 0)) w dn:=UO.ext h bo
   obtain⟨_,_,_,_,rfl,dd⟩:=dq
   exact aC G bo ⟨_,_,_,_,rfl,dd⟩
  ·intro ez dw
   have h:UpdO (ra (ps.getD i 0)) w ez:=UO.ext o dw
   refine dk G G (dk G G (a8 (aX G G G bM aG.size c G au ac ?_)))
   exact aC G aB rfl
  ·intro df bc
   have h:UpdO (ra (ps.getD i 0)) w df:=UO.ext o bc
   refine dk G G (dk G G (dk G G (dk G G (dk G G (dk G G (aT G G fun _ _ bu _ ce=>?_))))))
   obtain⟨cg,cj,bv,bh,rfl,I⟩:=bu
   have I:=I.ext ce
   refine dk G G (a8 ?_)
   have aa:=(((rc_wr.ext e5).updT ai H ao).ext bc)
   obtain⟨_,_⟩:=aa.own (hPer.lt i (by omega))
   refine pR (e:=⟨cg,cj,bv,bh⟩) (z:= -(Y (ps.getD i 0) c)) G G G aa (hPer.lt i (by omega)) (show c<cc by omega) ac (Zr.mono I (bX _)) (I.le (aZ du G)) fun ar aw J=>?_
   have cx:UpdO (ra (ps.getD i 0)) w ar:=UO.trans h J
   refine aS (dA (cC (aM (aL (bC G G G ((c+1:Nat):Int) (bW (a:=c) (b:=1) G G) (mv 1 G (aS (cB (⟨ar,c+1,ent Y (ps.getD i 0) c (-(Y (ps.getD i 0) c))⟩:a0×Nat×Mx) ⟨cx,(by omega),((((o_RAwr.ext e5).upd H bj).ext bc).updO J (fun p q hp hq e=>hA.Rr (ps.getD i 0) (hPer.lt i (by omega)) q p hq hp e.symm)),aw,(P2 hPer hi2 hY (by rw [hY i c hi2 dl,if_neg (by omega)]))⟩ (show cc-(c+1)<cc-c by omega) G ⟨rfl,rfl,rfl,rfl,rfl,rfl,rfl,rfl,Ht⟩))))))))
 ·refine aL (aN G G G false (dK (a:=c) (b:=cc) G G) (aE (aH (aY G (cM (cK (cT (cL (iW [] G Ht ?_)))))))))
  exact⟨rfl,⟨Y,rc_wr,(show c=cc by omega)▸hY⟩,U⟩
theorem NT {ra:Nat→Option a6}{rc:Nat→Nat}(hlb:lb≤w.heap.size)(_hA:Ap2 n RA ra)(hR:Own w lb 22 1 RA n rcap (ps.map (dW ra rc cc)))(hC:Rcs 68719476736 lb n cc ra rc w Z)(hcc:cc≤64)(hPer:Per n ps)(hgr:Bk w gr 54 [By RA n rcap])(_hnr:∀r,r<n→∀p:a6,ra r=some p→p.block≠gr)(_hnR:∀p:a6,RA=some p→p.block≠gr)(hi2:i<n)(hj2:j<n)(hij:i≠j){sk:Bool}(hk:Zr w b_k sk Ak nk ck x)(Lk:ln x≤68719476736)(hL:∀b,b<cc→ln (x*Z (ps.getD j 0) b+Z (ps.getD i 0) b)≤68719476736):aR aJ 85 #[AI i,AI j,O sk Ak nk ck,a9 gr 0] w (fun e w'=>e= .returned (.tuple #[])∧(∃zs,Lz none 68719476736 0 w' lb (ra (ps.getD i 0)) cc (rc (ps.getD i 0)) zs∧∀b,b<cc→zs.getD b 0=x*Z (ps.getD j 0) b+Z (ps.getD i 0) b)∧UpdO (ra (ps.getD i 0)) w w'):=by
 have cz:=hR.rv.le
 refine bQ Tryz.func85 G (n:=17) G (bq G) (args:= [AI i,AI j,O sk Ak nk ck,a9 gr 0]) ?_
 have bi:=hgr.lt
 refine bH [(0,AI i),(1,AI j),(2,O sk Ak nk ck),(3,a9 gr 0)] ⟨rfl,rfl,rfl,rfl,Ht⟩ (sr (m3 G G (vs:= (a4 sk Ak nk ck)) G fun g1 v2 nb=>?_))
 have cn:=nb.bk
 have da:w.heap.size≤g1:=by rw [←nb.at_];exact (UO.refl (ra (ps.getD i 0)) w).size
 have q6:gr<g1:=by rw [←nb.at_];exact hgr.lt
 have dh:∀p:a6,RA=some p→p.block≠g1:=fun p hp=>by have:=((hR).block p hp).2;have:=nb.at_;omega
 have dd:∀r,r<n→∀p:a6,ra r=some p→p.block≠g1:=fun r hr p hp=>by have:=((hC).lt r hr p hp).2;have:=nb.at_;omega
 have I:=nb.ext
 clear nb
 have o:UpdO (ra (ps.getD i 0)) w v2:=UO.ext (UO.refl (ra (ps.getD i 0)) w) I
 refine aE ?_
 obtain⟨av,ar,bc⟩:=((hR.ext I)).rowAt (i:=i) (by omega)
 obtain⟨U,ab,ae⟩:=((hR.ext I)).rowAt (i:=j) (by omega)
 refine dP cF 9 [] [Is (By RA n rcap),Is (AI i),Is (.pointer (some av)),Is (By (ra (ps.getD i 0)) cc (rc (ps.getD i 0))),Is (By RA n rcap),Is (AI j),Is (.pointer (some U)),Is (By (ra (ps.getD j 0)) cc (rc (ps.getD j 0))),Is (O sk Ak nk ck)] [[],[],[0,1],[2],[],[],[4,5],[6],[]] [[],[],[0,1],[0,1,2],[],[],[4,5],[4,5,6],[],[0,1,2,3,4,5,6,7,8]] rfl
  (aD G G (aA G G ?_) (aD G G (aA G G ?_) (aD G G (aA G G ?_) (aD G G (aA G G ?_) (aD G G (aA G G ?_) (aD G G (aA G G ?_) (aD G G (aA G G ?_) (aD G G (aA G G ?_) (aD G G (aA G G ?_) dF))))))))) ?_
 ·intro co bg
  have h:UpdO (ra (ps.getD i 0)) w co:=UO.ext o bg
  refine a8 (aK G G (aQ cG (hgr.ext (I.t bg)) G) ?_)
  exact aC G aB rfl
 ·intro bo bu
  have h:UpdO (ra (ps.getD i 0)) w bo:=UO.ext o bu
  refine a8 (mv 1 G ?_)
  exact aC G aB rfl
 ·intro bv cf
  have h:UpdO (ra (ps.getD i 0)) w bv:=UO.ext o cf
  refine dk G G (dk G G (a8 (aX G G G d9 cV i G av ar ?_)))
  exact aC G aB rfl
 ·intro cg ba
  have h:UpdO (ra (ps.getD i 0)) w cg:=UO.ext o ba
  refine dk G G (a8 (aK G G (cP cD (ba.cell bc)) ?_))
  exact aC G aB rfl
 ·intro ce ao
  have h:UpdO (ra (ps.getD i 0)) w ce:=UO.ext o ao
  refine a8 (aK G G (aQ cG (hgr.ext (I.t ao)) G) ?_)
  exact aC G aB rfl
 ·intro cu cm
  have h:UpdO (ra (ps.getD i 0)) w cu:=UO.ext o cm
  refine a8 (mv 1 G ?_)
  exact aC G aB rfl
 ·intro cx bw
  have h:UpdO (ra (ps.getD i 0)) w cx:=UO.ext o bw
  refine dk G G (dk G G (a8 (aX G G G d9 cV j G U ab ?_)))
  exact aC G aB rfl
 ·intro bj aq
  have h:UpdO (ra (ps.getD i 0)) w bj:=UO.ext o aq
  refine dk G G (a8 (aK G G (cP cD (aq.cell ae)) ?_))
  exact aC G aB rfl
 ·intro bz aj
  have h:UpdO (ra (ps.getD i 0)) w bz:=UO.ext o aj
  refine a8 (lo aG (cn.ext aj) (a4 sk Ak nk ck) G G G ?_)
  exact aC G aB rfl
 ·intro cj H
  have h:UpdO (ra (ps.getD i 0)) w cj:=UO.ext o H
  refine dk G G (dk G G (dk G G (dk G G (dk G G (dk G G (dk G G (dk G G (dk G G (a8 ?_)))))))))
  obtain⟨xi,ak,aa⟩:=((hC.ext (I.t H))).row (ps.getD i 0) (hPer.lt i (by omega))
  obtain⟨xj,az,J⟩:=((hC.ext (I.t H))).row (ps.getD j 0) (hPer.lt j (by omega))
  refine bR G G (vs:= [By (ra (ps.getD i 0)) cc (rc (ps.getD i 0)),By (ra (ps.getD j 0)) cc (rc (ps.getD j 0)),O sk Ak nk ck]) (by kernel_rfl) (by decide) (O0 ak (a7 (a7 hlb I.size) H.size) az (a7 (a7 hlb I.size) H.size) (fun p q hp hq=>hC.dis _ _ (hPer.lt i hi2) (hPer.lt j hj2) (fun e=>hij (hPer.inj i j hi2 hj2 e)) p q hp hq) (by omega) (hk.ext (I.t H)) Lk (fun b hb=>by rw [aa b hb,J b hb];exact hL b hb)) ?_
  rintro _ aw ⟨ag,rfl,ai,ac,ah⟩
  refine bL ?_
  have cd:UpdO (ra (ps.getD i 0)) w aw:=UO.trans h ah
  refine aS (dA (iW [] G Ht ?_))
  exact⟨rfl,⟨ag,ai,fun b hb=>by rw [ac b hb,aa b hb,J b hb]⟩,cd⟩
theorem NS {ra:Nat→Option a6}{rc:Nat→Nat}(hlb:lb≤w.heap.size)(_hA:Ap2 n RA ra)(hR:Own w lb 22 1 RA n rcap (ps.map (dW ra rc cc)))(hC:Rcs 68719476736 lb n cc ra rc w Z)(hcc:cc≤64)(hPer:Per n ps)(hgr:Bk w gr 54 [By RA n rcap])(_hnr:∀r,r<n→∀p:a6,ra r=some p→p.block≠gr)(_hnR:∀p:a6,RA=some p→p.block≠gr)(hi2:i<n)(hj2:j<n)(hij:i≠j)(hk1:Zr w b_k1 sk1 Ak1 nk1 ck1 x1)(Lk1:ln x1≤68719476736)(hk2:Zr w b_k2 sk2 Ak2 nk2 ck2 x2)(Lk2:ln x2≤68719476736)(hk3:Zr w b_k3 sk3 Ak3 nk3 ck3 x3)(Lk3:ln x3≤68719476736)(hk4:Zr w b_k4 sk4 Ak4 nk4 ck4 x4)(Lk4:ln x4≤68719476736)(hq2:∀b,b<cc→ln (x2*Z (ps.getD j 0) b)≤68719476736)(hq4:∀b,b<cc→ln (x4*Z (ps.getD j 0) b)≤68719476736)(hb1:∀b,b<cc→ln (x1*Z (ps.getD i 0) b+x2*Z (ps.getD j 0) b)≤68719476736)(hb2:∀b,b<cc→ln (x3*Z (ps.getD i 0) b+x4*Z (ps.getD j 0) b)≤68719476736):aR aJ 87 #[AI i,AI j,.agg #[.bool sk1,By Ak1 nk1 ck1,.bool sk2,By Ak2 nk2 ck2,.bool sk3,By Ak3 nk3 ck3,.bool sk4,By Ak4 nk4 ck4],a9 gr 0] w (fun e w'=>e= .returned (.tuple #[])∧(∃us ts,Lz none 68719476736 0 w' lb (ra (ps.getD i 0)) cc (rc (ps.getD i 0)) us∧Lz none 68719476736 0 w' lb (ra (ps.getD j 0)) cc (rc (ps.getD j 0)) ts∧(∀b,b<cc→us.getD b 0=x1*Z (ps.getD i 0) b+x2*Z (ps.getD j 0) b)∧∀b,b<cc→ts.getD b 0=x3*Z (ps.getD i 0) b+x4*Z (ps.getD j 0) b)∧UpS (S2 (ra (ps.getD i 0)) (ra (ps.getD j 0))) w w'):=by
 have dd:=hR.rv.le
 refine bQ Tryz.func87 G (n:=17) G (bq G) (args:= [AI i,AI j,.agg #[.bool sk1,By Ak1 nk1 ck1,.bool sk2,By Ak2 nk2 ck2,.bool sk3,By Ak3 nk3 ck3,.bool sk4,By Ak4 nk4 ck4],a9 gr 0]) ?_
 have bu:=hgr.lt
 refine bH [(0,AI i),(1,AI j),(2,.agg #[.bool sk1,By Ak1 nk1 ck1,.bool sk2,By Ak2 nk2 ck2,.bool sk3,By Ak3 nk3 ck3,.bool sk4,By Ak4 nk4 ck4]),(3,a9 gr 0)] ⟨rfl,rfl,rfl,rfl,Ht⟩ (sr (m3 G G (vs:= [.bool sk1,By Ak1 nk1 ck1,.bool sk2,By Ak2 nk2 ck2,.bool sk3,By Ak3 nk3 ck3,.bool sk4,By Ak4 nk4 ck4]) G fun g1 v2 nb=>?_))
 have cz:=nb.bk
 have df:w.heap.size≤g1:=by rw [←nb.at_];exact (UpS.refl (S2 (ra (ps.getD i 0)) (ra (ps.getD j 0))) w).size
 have q6:gr<g1:=by rw [←nb.at_];exact hgr.lt
 have dn:∀p:a6,RA=some p→p.block≠g1:=fun p hp=>by have:=((hR).block p hp).2;have:=nb.at_;omega
 have dl:∀r,r<n→∀p:a6,ra r=some p→p.block≠g1:=fun r hr p hp=>by have:=((hC).lt r hr p hp).2;have:=nb.at_;omega
 have U:=nb.ext
 clear nb
 have o:UpS (S2 (ra (ps.getD i 0)) (ra (ps.getD j 0))) w v2:=(UpS.refl (S2 (ra (ps.getD i 0)) (ra (ps.getD j 0))) w).ext U
 refine aE ?_
 obtain⟨ba,aw,bi⟩:=((hR.ext U)).rowAt (i:=i) (by omega)
 obtain⟨aa,ab,ag⟩:=((hR.ext U)).rowAt (i:=j) (by omega)
 refine dP cF 9 [] [Is (By RA n rcap),Is (AI i),Is (.pointer (some ba)),Is (By (ra (ps.getD i 0)) cc (rc (ps.getD i 0))),Is (By RA n rcap),Is (AI j),Is (.pointer (some aa)),Is (By (ra (ps.getD j 0)) cc (rc (ps.getD j 0))),Is (.agg #[.bool sk1,By Ak1 nk1 ck1,.bool sk2,By Ak2 nk2 ck2,.bool sk3,By Ak3 nk3 ck3,.bool sk4,By Ak4 nk4 ck4])] [[],[],[0,1],[2],[],[],[4,5],[6],[]] [[],[],[0,1],[0,1,2],[],[],[4,5],[4,5,6],[],[0,1,2,3,4,5,6,7,8]] rfl
  (aD G G (aA G G ?_) (aD G G (aA G G ?_) (aD G G (aA G G ?_) (aD G G (aA G G ?_) (aD G G (aA G G ?_) (aD G G (aA G G ?_) (aD G G (aA G G ?_) (aD G G (aA G G ?_) (aD G G (aA G G ?_) dF))))))))) ?_
 ·intro cx bj
  have h:UpS (S2 (ra (ps.getD i 0)) (ra (ps.getD j 0))) w cx:=o.ext bj
  refine a8 (aK G G (aQ cG (hgr.ext (U.t bj)) G) ?_)
  exact aC G aB rfl
 ·intro bw bz
  have h:UpS (S2 (ra (ps.getD i 0)) (ra (ps.getD j 0))) w bw:=o.ext bz
  refine a8 (mv 1 G ?_)
  exact aC G aB rfl
 ·intro cd cm
  have h:UpS (S2 (ra (ps.getD i 0)) (ra (ps.getD j 0))) w cd:=o.ext cm
  refine dk G G (dk G G (a8 (aX G G G d9 cV i G ba aw ?_)))
  exact aC G aB rfl
 ·intro cn bh
  have h:UpS (S2 (ra (ps.getD i 0)) (ra (ps.getD j 0))) w cn:=o.ext bh
  refine dk G G (a8 (aK G G (cP cD (bh.cell bi)) ?_))
  exact aC G aB rfl
 ·intro cj au
  have h:UpS (S2 (ra (ps.getD i 0)) (ra (ps.getD j 0))) w cj:=o.ext au
  refine a8 (aK G G (aQ cG (hgr.ext (U.t au)) G) ?_)
  exact aC G aB rfl
 ·intro da cu
  have h:UpS (S2 (ra (ps.getD i 0)) (ra (ps.getD j 0))) w da:=o.ext cu
  refine a8 (mv 1 G ?_)
  exact aC G aB rfl
 ·intro dc ce
  have h:UpS (S2 (ra (ps.getD i 0)) (ra (ps.getD j 0))) w dc:=o.ext ce
  refine dk G G (dk G G (a8 (aX G G G d9 cV j G aa ab ?_)))
  exact aC G aB rfl
 ·intro bv av
  have h:UpS (S2 (ra (ps.getD i 0)) (ra (ps.getD j 0))) w bv:=o.ext av
  refine dk G G (a8 (aK G G (cP cD (av.cell ag)) ?_))
  exact aC G aB rfl
 ·intro cf aq
  have h:UpS (S2 (ra (ps.getD i 0)) (ra (ps.getD j 0))) w cf:=o.ext aq
  refine a8 (lo FM (cz.ext aq) [.bool sk1,By Ak1 nk1 ck1,.bool sk2,By Ak2 nk2 ck2,.bool sk3,By Ak3 nk3 ck3,.bool sk4,By Ak4 nk4 ck4] G G G ?_)
  exact aC G aB rfl
 ·intro co I
  have h:UpS (S2 (ra (ps.getD i 0)) (ra (ps.getD j 0))) w co:=o.ext I
  refine dk G G (dk G G (dk G G (dk G G (dk G G (dk G G (dk G G (dk G G (dk G G (a8 ?_)))))))))
  obtain⟨xi,ar,J⟩:=((hC.ext (U.t I))).row (ps.getD i 0) (hPer.lt i (by omega))
  obtain⟨xj,bg,H⟩:=((hC.ext (U.t I))).row (ps.getD j 0) (hPer.lt j (by omega))
  refine bR G G (vs:= [By (ra (ps.getD i 0)) cc (rc (ps.getD i 0)),By (ra (ps.getD j 0)) cc (rc (ps.getD j 0)),.agg #[.bool sk1,By Ak1 nk1 ck1,.bool sk2,By Ak2 nk2 ck2,.bool sk3,By Ak3 nk3 ck3,.bool sk4,By Ak4 nk4 ck4]]) (by kernel_rfl) (by decide) (NZ ar (a7 (a7 hlb U.size) I.size) bg (a7 (a7 hlb U.size) I.size) (fun p q hp hq=>hC.dis _ _ (hPer.lt i hi2) (hPer.lt j hj2) (fun e=>hij (hPer.inj i j hi2 hj2 e)) p q hp hq) (by omega) (hk1.ext (U.t I)) Lk1 (hk2.ext (U.t I)) Lk2 (hk3.ext (U.t I)) Lk3 (hk4.ext (U.t I)) Lk4 (fun b hb=>by rw [H b hb];exact hq2 b hb) (fun b hb=>by rw [H b hb];exact hq4 b hb) (fun b hb=>by rw [J b hb,H b hb];exact hb1 b hb) (fun b hb=>by rw [J b hb,H b hb];exact hb2 b hb)) ?_
  rintro _ bc ⟨ah,ae,rfl,aj,ai,ak,ac,ao⟩
  refine bL ?_
  have cg:UpS (S2 (ra (ps.getD i 0)) (ra (ps.getD j 0))) w bc:=h.trans ao
  refine aS (dA (iW [] G Ht ?_))
  exact⟨rfl,⟨ah,ae,aj,ai,fun b hb=>by rw [ak b hb,J b hb,H b hb],fun b hb=>by rw [ac b hb,J b hb,H b hb]⟩,cg⟩
theorem Own.ofT {base':Nat}{s':Nat}{B:Option a6}{n':Nat}(h:Own w base t s A n cap vs)(k:Own w base' t' s' B n' cap' us)(hne:t≠t'):∀p q,A=some p→B=some q→p.block≠q.block:=by
 intro p q H o e
 rcases k with k | ⟨g',cs',ha',hb',hk',_⟩
 ·rw [k.1] at o;cases o
 ·rw [ha'] at o;cases o
  exact hne (h.type H e hk')
structure LdP (lb N c gl gs gr:Nat)(RA:Option a6)(rcap:Nat)(ra:Nat→Option a6)(rc:Nat→Nat)(w:a0)(ps:List Nat)(Y Z:Mx):Prop where
 bl:Bk w gl 99 [By RA N rcap,By (some ⟨gs,0,none⟩) 1 1]
 bs:Bk w gs 112 [qU gr,qT gr,qW gr,qV gr]
 br:Bk w gr 54 [By RA N rcap]
 ho:Own w lb 22 1 RA N rcap (ps.map (dW ra rc c))
 hc:Rcs 68719476736 lb N c ra rc w Y
 per:Per N ps
 ent:∀i j,i<N→j<c→Z i j=Y (ps.getD i 0) j
 lb_:lb≤gl∧lb≤gs∧lb≤gr
section
variable {lb N c gl gs gr:Nat}{RA:Option a6}{rcap:Nat}{ra:Nat→Option a6}{rc:Nat→Nat}{w w':a0}{ps:List Nat}{Y Z V:Mx}
theorem Ldr.op (h:Ldr lb N c gl gs gr RA rcap ra rc w Z):∃ps Y,LdP lb N c gl gs gr RA rcap ra rc w ps Y Z:=by
 obtain⟨ps,Y,H,I,o,J⟩:=h.ex
 exact⟨ps,Y,h.bl,h.bs,h.br,H,I,o,J,h.lb_⟩
theorem LdP.ldr (h:LdP lb N c gl gs gr RA rcap ra rc w ps Y Z):Ldr lb N c gl gs gr RA rcap ra rc w Z:=⟨h.bl,h.bs,h.br,⟨ps,Y,h.ho,h.hc,h.per,h.ent⟩,h.lb_⟩
theorem LdP.ext (h:LdP lb N c gl gs gr RA rcap ra rc w ps Y Z)(e:Ext w w'):LdP lb N c gl gs gr RA rcap ra rc w' ps Y Z:=
 ⟨h.bl.ext e,h.bs.ext e,h.br.ext e,h.ho.ext e,h.hc.ext e,h.per,h.ent,h.lb_⟩
theorem LdP.updT (h:LdP lb N c gl gs gr RA rcap ra rc w ps Y Z)(hb:Bk w g T us)(x:Upd g w w')(hg:¬LS N gl gs gr RA ra g)(hT:45≠T:=by decide):LdP lb N c gl gs gr RA rcap ra rc w' ps Y Z:=by
 refine⟨h.bl.updN x (fun e=>hg (bE e.symm)),h.bs.updN x (fun e=>hg (bK (bE e.symm))),h.br.updN x (fun e=>hg (bK (bK (bE e.symm)))),h.ho.upd x (fun p o e=>hg ?_),h.hc.updT hb x (fun r hr p o e=>hg ?_) hT,h.per,h.ent,h.lb_⟩
 ·exact bK (bK (bK (bE ⟨p,o,e⟩)))
 ·exact bK (bK (bK (bK ⟨r,hr,p,o,e⟩)))
theorem LdP.ap2 (h:LdP lb N c gl gs gr RA rcap ra rc w ps Y Z):Ap2 N RA ra:=⟨fun r hr p q o H=>by
 obtain⟨us,I⟩:=h.hc.own hr
 exact Own.ofT h.ho I (by decide) p q o H⟩
theorem LdP.nr (h:LdP lb N c gl gs gr RA rcap ra rc w ps Y Z):∀r,r<N→∀p:a6,ra r=some p→p.block≠gr:=fun r hr p o e=>by
 obtain⟨us,H⟩:=h.hc.own hr
 exact absurd (H.type o e h.br) (by decide)
theorem LdP.nR (h:LdP lb N c gl gs gr RA rcap ra rc w ps Y Z):∀p:a6,RA=some p→p.block≠gr:=fun p o e=>absurd (h.ho.type o e h.br) (by decide)
theorem LdP.rowz (h:LdP lb N c gl gs gr RA rcap ra rc w ps Y Z)(hi:i<N):∃zs,Lz none 68719476736 0 w lb (ra (ps.getD i 0)) c (rc (ps.getD i 0)) zs∧∀j,j<c→zs.getD j 0=Z i j:=by
 obtain⟨zs,o,H⟩:=h.hc.row _ (h.per.lt i hi)
 exact⟨zs,o,fun j hj=>(H j hj).trans (h.ent i j hi hj).symm⟩
theorem NW (h:LdP lb N c gl gs gr RA rcap ra rc w ps Y Z)(hlb:lb≤w.heap.size)(hcc:c≤64)(hi:i<N)(hj:j<N):aR aJ 83 #[AI i,AI j,a9 gr 0] w (fun e w'=>e= .returned (.tuple #[])∧Ldr lb N c gl gs gr RA rcap ra rc w' (lB i j Z)∧UpS (LS N gl gs gr RA ra) w w'):=by
 refine (NR hlb h.ap2 h.ho h.hc hcc h.per h.br h.nr h.nR hi hj).mono ?_
 rintro e w' ⟨he,J,uo⟩
 refine⟨he,h.ldr.rows (S:=fun k=>∃p,RA=some p∧p.block=k) (UpS.of_updO uo fun p I=>⟨p,I,rfl⟩) (fun k U=>bE U) ⟨_,Y,J,h.hc.updQ h.ho uo (fun r hr p q I hq=>h.ap2.Rr r hr p q I hq),h.per.swp hi hj,fun a b ha hb=>?_⟩⟩
 rw [oH h.per.len hi hj]
 unfold lB
 by_cases H:a=i
 ·rw [if_pos H]
  by_cases o:a=j
  ·rw [if_pos o,h.ent j b hj hb,←H,←o]
  ·rw [if_neg o,if_pos H,h.ent j b hj hb]
 ·rw [if_neg H]
  by_cases o:a=j
  ·rw [if_pos o,if_pos o,h.ent i b hi hb]
  ·rw [if_neg o,if_neg o,if_neg H,h.ent a b ha hb]
theorem NU (h:LdP lb N c gl gs gr RA rcap ra rc w ps Y Z)(hlb:lb≤w.heap.size)(hcc:c≤64)(hi:i<N):aR aJ 84 #[AI i,a9 gr 0] w (fun e w'=>e= .returned (.tuple #[])∧Ldr lb N c gl gs gr RA rcap ra rc w' (gD i Z)∧UpS (LS N gl gs gr RA ra) w w'):=by
 refine (NQ hlb h.ap2 h.ho h.hc hcc h.per h.br h.nr h.nR hi).mono ?_
 rintro e w' ⟨he,⟨X,J,U⟩,uo⟩
 obtain⟨us,_⟩:=h.hc.own (h.per.lt i hi)
 refine⟨he,h.ldr.rows (S:=fun k=>∃p,ra (ps.getD i 0)=some p∧p.block=k) (UpS.of_updO uo fun p H=>⟨p,H,rfl⟩) (fun k hk=>bK ⟨_,h.per.lt i hi,hk⟩) ⟨ps,X,h.ho.updO uo (fun p q H hq e=>h.ap2.Rr _ (h.per.lt i hi) q p hq H e.symm),J,h.per,fun a b I hb=>?_⟩⟩
 rw [U a b I hb]
 unfold gD
 by_cases o:a=i
 ·rw [if_pos o,if_pos ⟨o,hb⟩,h.ent i b hi hb]
 ·rw [if_neg o,if_neg (fun q=>o q.1),h.ent a b I hb]
theorem NY (h:LdP lb N c gl gs gr RA rcap ra rc w ps Y Z)(hlb:lb≤w.heap.size)(hcc:c≤64)(hi:i<N)(hj:j<N)(hij:i≠j){sk:Bool}(hk:Zr w b_k sk Ak nk ck x)(Lk:ln x≤68719476736)(hL:∀b,b<c→ln (Z i b+x*Z j b)≤68719476736):aR aJ 85 #[AI i,AI j,O sk Ak nk ck,a9 gr 0] w (fun e w'=>e= .returned (.tuple #[])∧Ldr lb N c gl gs gr RA rcap ra rc w' (fN i j x Z)∧UpS (LS N gl gs gr RA ra) w w'):=by
 refine (NT hlb h.ap2 h.ho h.hc hcc h.per h.br h.nr h.nR hi hj hij hk Lk (fun b hb=>by rw [←h.ent j b hj hb,←h.ent i b hi hb,Int.add_comm];exact hL b hb)).mono ?_
 rintro e w' ⟨he,⟨zs,hz,J⟩,uo⟩
 refine⟨he,h.ldr.rows (S:=fun k=>∃p,ra (ps.getD i 0)=some p∧p.block=k) (UpS.of_updO uo fun p H=>⟨p,H,rfl⟩) (fun k hk=>bK ⟨_,h.per.lt i hi,hk⟩) ⟨ps,_,h.ho.updO uo (fun p q H U e=>h.ap2.Rr _ (h.per.lt i hi) q p U H e.symm),h.hc.turn (h.per.lt i hi) uo hz,h.per,fun a b I hb=>?_⟩⟩
 unfold fN
 by_cases o:a=i
 ·rw [if_pos o,o,if_pos rfl,J b hb,h.ent j b hj hb,h.ent i b hi hb,Int.add_comm]
 ·rw [if_neg o,if_neg (fun q=>o (h.per.inj a i I hi q)),h.ent a b I hb]
theorem NX (h:LdP lb N c gl gs gr RA rcap ra rc w ps Y Z)(hlb:lb≤w.heap.size)(hcc:c≤64)(hi:i<N)(hj:j<N)(hij:i≠j)(hk1:Zr w b_k1 sk1 Ak1 nk1 ck1 x1)(Lk1:ln x1≤68719476736)(hk2:Zr w b_k2 sk2 Ak2 nk2 ck2 x2)(Lk2:ln x2≤68719476736)(hk3:Zr w b_k3 sk3 Ak3 nk3 ck3 x3)(Lk3:ln x3≤68719476736)(hk4:Zr w b_k4 sk4 Ak4 nk4 ck4 x4)(Lk4:ln x4≤68719476736)(hq2:∀b,b<c→ln (x2*Z j b)≤68719476736)(hq4:∀b,b<c→ln (x4*Z j b)≤68719476736)(hb1:∀b,b<c→ln (x1*Z i b+x2*Z j b)≤68719476736)(hb2:∀b,b<c→ln (x3*Z i b+x4*Z j b)≤68719476736):aR aJ 87 #[AI i,AI j,.agg #[.bool sk1,By Ak1 nk1 ck1,.bool sk2,By Ak2 nk2 ck2,.bool sk3,By Ak3 nk3 ck3,.bool sk4,By Ak4 nk4 ck4],a9 gr 0] w (fun e w'=>e= .returned (.tuple #[])∧Ldr lb N c gl gs gr RA rcap ra rc w' (gI i j x1 x2 x3 x4 Z)∧UpS (LS N gl gs gr RA ra) w w'):=by
 refine (NS hlb h.ap2 h.ho h.hc hcc h.per h.br h.nr h.nR hi hj hij hk1 Lk1 hk2 Lk2 hk3 Lk3 hk4 Lk4 (fun b hb=>by rw [←h.ent j b hj hb];exact hq2 b hb) (fun b hb=>by rw [←h.ent j b hj hb];exact hq4 b hb) (fun b hb=>by rw [←h.ent j b hj hb,←h.ent i b hi hb];exact hb1 b hb) (fun b hb=>by rw [←h.ent j b hj hb,←h.ent i b hi hb];exact hb2 b hb)).mono ?_
 rintro e w' ⟨he,⟨us,ts,hu,ht,hx,hy⟩,uS⟩
 have H:=h.per.lt i hi
 have o:=h.per.lt j hj
 have aa:ps.getD i 0≠ps.getD j 0:=fun q=>hij (h.per.inj i j hi hj q)
 refine⟨he,h.ldr.rows uS (fun k I=>?_) ⟨ps,_,h.ho.upS uS (fun p hp hS=>?_),h.hc.turn2 H o aa uS hu ht,h.per,fun a b ha hb=>?_⟩⟩
 ·rcases I with I | I
  ·exact bK ⟨_,H,I⟩
  ·exact bK ⟨_,o,I⟩
 ·rcases hS with⟨q,hq,e⟩ | ⟨q,hq,e⟩
  ·exact h.ap2.Rr _ H p q hp hq e.symm
  ·exact h.ap2.Rr _ o p q hp hq e.symm
 ·unfold gI
  by_cases J:a=i
  ·rw [if_pos J,J,if_pos rfl,hx b hb,h.ent j b hj hb,h.ent i b hi hb]
  ·rw [if_neg J,if_neg (fun q=>J (h.per.inj a i ha hi q))]
   by_cases U:a=j
   ·rw [if_pos U,U,if_pos rfl,hy b hb,h.ent j b hj hb,h.ent i b hi hb]
   ·rw [if_neg U,if_neg (fun q=>U (h.per.inj a j ha hj q)),h.ent a b ha hb]
end
end
end Go.Proofs.YtnpbbknemflpnaaGreat
