/- Parts Ref1d, Ref3, Ref3b, Ref3c, Ref3d, Ref5, Ref3f, joined. -/
import Derived.Test.YtkkabncicmhjfaaGreatS3

open Go renaming Addr → aG, Calls → aQ, Value → aI, World → a7
open List renaming drop_eq_getElem_cons → mZ, drop_zero → i9, getD_eq_getElem?_getD → bE, getElem?_eq_getElem → cA, getElem?_eq_none → gM, replicate → dL
open Nat renaming add_assoc → iW, add_mul → dV, add_zero → eI, div_eq_of_lt → gC, div_le_self → i8, le_refl → aS, le_trans → a6, lt_of_le_of_lt → lG, lt_of_lt_of_le → d4, mod_add_div → jN, mod_eq_of_lt → fM, mod_lt → gB, mul_add → cS, mul_assoc → bZ, mul_comm → cM, mul_le_mul → kE, mul_le_mul_left → fG, mul_le_mul_right → eA, mul_one → eG, mul_pos → lF, mul_right_comm → pE, mul_zero → fX, pow_add → dU, pow_le_pow_right → i6, pow_pos → iO, pow_succ → dJ, zero_add → eX, zero_le → bJ
open Or renaming inl → bS, inr → bW
open Go.Proofs.Tryz renaming prog → aM
open Go.Value renaming int → gK
namespace Go.Proofs.YtkkabncicmhjfaaGreat
set_option maxHeartbeats 4000000
variable {A A0 Aa Ab B D:Option aG}{N R X Y Z b c ca cap cb cd d f g i j k m n na q rest:Nat}{ds es l l' l0 ld lq lr xs ys:List Nat}{s sa sb:Bool}{t:TypeId}{w w0:a7}{x y z:Int}
open Go.RowKit
theorem pR (w:a7):(sizeOf 3).run aM w= .ok 1 w:=by kernel_rfl
theorem GX (w:a7):(isAgg 3).run aM w= .ok false w:=by kernel_rfl
theorem rK:Tryz.prog.underlying 81=some (.slice 3):=Tryz.underlying81
theorem Ri.at (hb:0<b)(h:Ri b w A n c xs)(hi:i<n):∃p,A.map (·.add (i*1))=some p∧w.cell? p=some (v4 ((xs.getD i 0:Nat):Int))∧xs.getD i 0<b:=by
 obtain⟨a,x,rfl,o,f,q⟩:=h.get hb hi
 refine⟨a.add i,by rw [eG];rfl,?_,by rw [o.out];exact f⟩
 rw [o.out];exact q
theorem Ri.updL {w':a7}(h:Ri b w A n c xs)(e:Upd g w w')(hne:0<c→∀a,A=some a→a.block≠g):Ri b w' A n c xs:=
 ⟨⟨h.rv.len,h.rv.le,h.rv.max,fun i hi=>by
  obtain⟨a,f,o⟩:=h.rv.get i hi
  exact⟨a,f,e.cell o (by rw [sL];exact hne (by have:=h.rv.le;omega) a f)⟩,fun a f o=>d4 (h.rv.blk a f o) e.size⟩,h.wf⟩
def SD (m:Nat)(v:aI)(w:a7):Prop:=∃A k c,v= AT A k c∧Ri 65536 w A k c (db 65536 m)
theorem EQ {x y:Nat}(e:Ending)(w':a7)(h:sZ x y w e w'):Gv w (Is (v4 (dY x y))) e w':=by
 obtain⟨c,f,_,_,rfl,o⟩:=h
 exact⟨_,rfl,(show gK .i64 c=_ by rw [f.out]),o⟩
theorem EA (h:Rd w A n c xs):(db 65536 (nv xs)).length≤4*n:=by
 have:=nL h.wf
 rwa [h.len] at this
theorem F8 (hx:Rd w A n c xs)(hl:n≤274877906943):aQ aM 64 #[AT A n c] w (Gv w (SD (nv xs))):=
 (pX hx hl).mono fun e w' h=>by
  obtain⟨A,n,c,rfl,_,f,_,o⟩:=h
  exact⟨_,rfl,⟨A,n,c,rfl,f⟩,o⟩
theorem PV (hb:b≤w.heap.size)(hx:Ri 65536 w A n c ds)(hl:n≤1099511627775):aQ aM 65 #[AT A n c] w (Gv w (WR b (nb 65536 ds))):=(xI hx hl).mono (gw hb)
theorem PT {x y:Nat}(hx:Ri 65536 w A n c (db 65536 x))(hl:n≤1099511627776)(hy:Ri 65536 w B m d (db 65536 y))(hl':m≤1099511627776):aQ aM 125 #[AT A n c,AT B m d] w (Gv w (Is (v4 (dY x y)))):=(CL hx hl hy hl').mono EQ
theorem F7 (hx:Ri 65536 w A n c ds)(hl:n≤1099511627776)(hi:i≤4398046511104):aQ aM 124 #[AT A n c,v4 (i:Int)] w (Gv w (Is (v4 ((ds.getD i 0:Nat):Int)))):=
 (xH hx hl (i:=(i:Int))).mono fun e w' h=>by
  obtain⟨x,o,_,rfl,rfl⟩:=h
  have f:=o.out
  rw [Int.toNat_natCast] at f
  exact⟨_,rfl,(show gK .i64 (x:Int)=_ by rw [f]),Ext.refl _⟩
theorem BK {t t':Nat}(hl:i<l.length)(hd:i<ds.length)(h:nb 65536 (l.take i)+nb 65536 (es.take i)=nb 65536 (ds.take i)+65536^i*t)(hs:d+es.getD i 0+t=ds.getD i 0+65536*t'):nb 65536 ((l.set i d).take (i+1))+nb 65536 (es.take (i+1))=nb 65536 (ds.take (i+1))+65536^(i+1)*t':=by
 have he:nb 65536 (es.take (i+1))=nb 65536 (es.take i)+65536^i*es.getD i 0:=by
  by_cases h:i<es.length
  ·exact gX _ _ _ h
  ·rw [List.take_of_length_le (by omega),List.take_of_length_le (by omega),bE,gM (by omega)]
   rfl
 rw [oI 65536 hl,he,gX 65536 ds i hd,dJ,bZ]
 have e:65536^i*(d+es.getD i 0+t)=65536^i*(ds.getD i 0+65536*t'):=by rw [hs]
 simp only [cS] at e
 omega
theorem KH {x y t:Nat}(hds:ds=db 65536 x)(hes:es=db 65536 y)(hxy:y≤x)(hn:ds.length=n)(hl:l.length=n)(hw:Wfb 65536 l)(h:nb 65536 (l.take n)+nb 65536 (es.take n)=nb 65536 (ds.take n)+65536^n*t):nb 65536 l=x-y:=by
 have o:es.length≤n:=by rw [←hn,hds,hes];exact uL gA hxy
 rw [List.take_of_length_le (by omega),List.take_of_length_le o,List.take_of_length_le (by omega),hds,hes,j1 gA,j1 gA] at h
 have q:=nI hw
 rw [hl] at q
 have f:t=0:=by
  refine Nat.eq_zero_of_not_pos fun p=>?_
  have f:65536^n*1≤65536^n*t:=fG _ p
  omega
 rw [f] at h
 omega
theorem SA {x y:Nat}(h:y≤x):cH .lss (dY x y) 0=some false:=by
 have e:¬dY x y<0:=fun e=>by have:=mP.1 e;omega
 exact uG
theorem SB {x y:Nat}(h:y≤x):y≤x:=h
theorem Bk.ri0 (h:Bk w g t (l.map I6))(hw:Wfb 65536 l)(hl:l.length=N)(hN:N≤9223372036854775807):Ri 65536 w (some ⟨g,0,none⟩) N N l:=by
 have:=h.ri hw (o:=0) (n:=N) (cap:=N) (aS _) (by omega) (by rw [eB];exact hN)
 rwa [i9,List.take_of_length_le (Nat.le_of_eq hl)] at this
theorem LV (hx:Rd w A n cap xs)(hln:n≤137438953472)(hy:Rd w D m cd ys)(hlm:m≤137438953472)(hle:nv ys≤nv xs):aQ aM 102 #[AT A n cap,AT D m cd] w (Gv w (T2 (WR w.heap.size (nv xs-nv ys)) (Is (v4 0)))):=by
 refine bP Tryz.func102 G (n:=49) G (bq G) (args:= [AT A n cap,AT D m cd]) (bH [(0,AT A n cap),(1,AT D m cd)] ⟨rfl,rfl,Fo⟩ (sr (mv 2 G (aA (sr (mv 1 G (cl (vs:= [AT A n cap]) (Ext.refl w) (F8 hx (by omega)) G (by kernel_rfl) fun _ _ r3 e2 q=>?_)))))))
 obtain⟨A4,f,c4,rfl,I⟩:=r3
 refine mv 1 G (aA (sr (mv 1 G (cl (vs:= [AT D m cd]) q (F8 (hy.ext e2) (by omega)) G (by kernel_rfl) fun _ _ r7 e6 o=>?_))))
 obtain⟨U,n8,Z,rfl,F⟩:=r7
 refine mv 1 G (aA (aH (aH ?_)))
 have am:=I.len
 have bp:=EA hx
 have ch:=F.len
 have bo:=EA hy
 refine aJ (mv 2 G (cl (vs:= [AT A4 f c4,AT U n8 Z]) o (PT (I.ext e6) (by omega) F (by omega)) G (by kernel_rfl) fun _ _ cv H p=>?_))
 obtain rfl:=cv
 refine aN G G G false (SA hle) (aA (aV G (b8 (aK (aH ?_)))))
 obtain⟨ds,bu⟩:∃ds,ds=(db 65536 (nv xs)):=⟨_,rfl⟩
 rw [←bu] at I am bp
 have cj:=I.wf
 obtain⟨es,cp⟩:∃es,es=(db 65536 (nv ys)):=⟨_,rfl⟩
 rw [←cp] at F ch bo
 have ck:=F.wf
 refine aJ (mv 1 G (pu (v:= v4 f) G (mA G (k:=f) G G G rK qC G fun h cz ab aa bg=>?_)))
 rw [tS] at aa
 have aj:w.heap.size≤h:=by rw [←ab];exact p.size
 have dg:0<cap→∀a,A=some a→a.block≠h:=fun hc a ha=>by have:=((hx.ext (e2.t (e6.t H)))).rv.blk a ha hc;omega
 have dh:0<cd→∀a,D=some a→a.block≠h:=fun hc a ha=>by have:=((hy.ext (e2.t (e6.t H)))).rv.blk a ha hc;omega
 have ag:0<c4→∀a,A4=some a→a.block≠h:=fun hc a ha=>by have:=((I.ext (e6.t H))).rv.blk a ha hc;omega
 have ae:0<Z→∀a,U=some a→a.block≠h:=fun hc a ha=>by have:=((F.ext H)).rv.blk a ha hc;omega
 clear ab
 have cx:=p.trans bg
 refine mv 1 G (aA (sr (mv 1 G (aA (aH (sr (mv 1 G (aA (bG ?_)))))))))
 refine cQ (T:=a7×Nat×Nat×List Nat)
  (fun⟨wr,i,t,l⟩=> [(6,AT A4 f c4),(7,AT U n8 Z),(8,AT (some ⟨h,0,none⟩) f f),(9,v4 t),(10,v4 i)])
  (fun⟨wr,i,t,l⟩=>wr)
  (fun⟨wr,i,t,l⟩=>(Ext w wr)∧(i≤f)∧(t≤1)∧(Bk wr h 3 (l.map I6))∧(l.length=f)∧(Wfb 65536 l)∧(nb 65536 (l.take i)+nb 65536 (es.take i)=nb 65536 (ds.take i)+65536^i*t)∧(Ri 65536 wr A4 f c4 ds)∧(Ri 65536 wr U n8 Z es))
  (fun⟨wr,i,t,l⟩=>f-i)
  (⟨cz,0,0,_⟩:a7×Nat×Nat×List Nat) ⟨cx,bJ _,bJ _,aa,(List.length_replicate (n:=f) (a:=0)),oY (by decide) _,by simp [nb],(I.ext (e6.t (H.t bg))),(F.ext (H.t bg))⟩ G ⟨rfl,rfl,rfl,rfl,rfl,Fo⟩ ?_
 rintro⟨wr,i,t,l⟩ ⟨q,hi,_,hb,hl,X,hv,V,Y⟩
 refine cP [(6,AT A4 f c4),(7,AT U n8 Z),(8,AT (some ⟨h,0,none⟩) f f),(9,v4 t),(10,v4 i)] wr G ⟨rfl,rfl,rfl,rfl,rfl,Fo⟩ (aH (aH ?_))
 by_cases dt:i<f
 ·refine aJ (mv 2 G (pu (v:= v4 f) G (aN G G G true (cG (a:=i) (b:=f) G G) (aA (bB G (b8 (aK (aH (bG (aH ?_))))))))))
  have dr:=j8 (b:=65536) cj i
  have dm:=j8 (b:=65536) ck i
  by_cases df:es.getD i 0+t≤ds.getD i 0
  ·obtain⟨co,cg,bh,_⟩:=(V).at (by decide) (i:=i) (by omega)
   refine cU bR 10 [] [Is (AT A4 f c4),Is (v4 i),Is (.pointer (some co)),Is (v4 ((ds.getD i 0:Nat):Int)),Is (AT U n8 Z),Is (v4 i),Is (v4 ((es.getD i 0:Nat):Int)),Is (v4 (((ds.getD i 0)-(es.getD i 0):Nat):Int)),Is (v4 t),Is (v4 ((((ds.getD i 0)-(es.getD i 0))-t:Nat):Int))] [[],[],[0,1],[2],[],[],[4,5],[3,6],[],[7,8]] [[],[],[0,1],[0,1,2],[],[],[4,5],[0,1,2,3,4,5,6],[],[0,1,2,3,4,5,6,7,8],[0,1,2,3,4,5,6,7,8,9]] rfl
    (aF G G (aC G G ?_) (aF G G (aC G G ?_) (aF G G (aC G G ?_) (aF G G (aC G G ?_) (aF G G (aC G G ?_) (aF G G (aC G G ?_) (aF G G (aC G G ?_) (aF G G (aC G G ?_) (aF G G (aC G G ?_) (aF G G (aC G G ?_) cE)))))))))) ?_
   ·exact fun _ _=>aB (mv 1 G (aE G aD G))
   ·exact fun _ _=>aB (mv 1 G (aE G aD G))
   ·exact fun _ _=>dk G G (dk G G (aB (bI G G G rK pR i G co cg (aE G aD G))))
   ·exact fun _ dc=>dk G G (aB (aP G G (dC GX (dc.cell bh)) (aE G aD G)))
   ·exact fun _ _=>aB (mv 1 G (aE G aD G))
   ·exact fun _ _=>aB (mv 1 G (aE G aD G))
   ·intro _ cm
    have o:=q.trans cm
    refine dk G G (dk G G (aB (cl (vs:= [AT U n8 Z,v4 i]) o (F7 (Y.ext cm) (by omega) (by omega)) G (by kernel_rfl) fun _ _ de dd p=>?_)))
    obtain rfl:=de
    exact aE G dd rfl
   ·exact fun _ _=>dk G G (dk G G (aB (aT G G G (((ds.getD i 0)-(es.getD i 0):Nat):Int) (kC (a:=ds.getD i 0) (b:=es.getD i 0) G G) (aE G aD G))))
   ·exact fun _ _=>aB (mv 1 G (aE G aD G))
   ·exact fun _ _=>dk G G (dk G G (aB (aT G G G ((((ds.getD i 0)-(es.getD i 0))-t:Nat):Int) (kC (a:=(ds.getD i 0)-(es.getD i 0)) (b:=t) G G) (aE G aD G))))
   ·intro _ W
    have o:=q.trans W
    refine dk G G (dk G G (dk G G (dk G G (dk G G (dk G G (dk G G (dk G G (dk G G (dk G G (aB (mv 1 G (aR (cF ?_)))))))))))))
    refine aK (sr (mv 1 G (aA (aH (sr (mv 1 G (aN G G G false (cL (a:=((ds.getD i 0)-(es.getD i 0))-t) (b:=0) G G) (aA (aV G (b8 (aK (aJ (mv 1 G ?_)))))))))))))
    refine mv 2 G (bI G G G rK pR i G ⟨h,i,none⟩ (dN _ _) ?_)
    have av:=(hb.ext W)
    refine eJ G G G pR G av (gQ (by rw [hl];omega)) G ((l.set i (((ds.getD i 0)-(es.getD i 0))-t)).map I6) (oK _ _ _) fun bz az L _=>?_
    have p:=L.ext o aj
    refine aR (bM (aK (aJ (mv 1 G (aT G G G ((i+1:Nat):Int) (bK (a:=i) (b:=1) G G) (mv 1 G (aR (bX (⟨bz,i+1,0,_⟩:a7×Nat×Nat×List Nat) ⟨p,(by omega),(by decide),az,(iF (l:=l) (hl)),iM X _,BK (by omega) (by omega) hv (by omega),(Ri.updL (V.ext W) L ag),(Ri.updL (Y.ext W) L ae)⟩ (show f-(i+1)<f-i by omega) G ⟨rfl,rfl,rfl,rfl,rfl,Fo⟩))))))))
  ·obtain⟨ao,ar,bf,_⟩:=(V).at (by decide) (i:=i) (by omega)
   refine cU bR 10 [] [Is (AT A4 f c4),Is (v4 i),Is (.pointer (some ao)),Is (v4 ((ds.getD i 0:Nat):Int)),Is (AT U n8 Z),Is (v4 i),Is (v4 ((es.getD i 0:Nat):Int)),Is (v4 (((ds.getD i 0:Nat):Int)-((es.getD i 0:Nat):Int))),Is (v4 t),Is (v4 ((((ds.getD i 0:Nat):Int)-((es.getD i 0:Nat):Int))-((t:Nat):Int)))] [[],[],[0,1],[2],[],[],[4,5],[3,6],[],[7,8]] [[],[],[0,1],[0,1,2],[],[],[4,5],[0,1,2,3,4,5,6],[],[0,1,2,3,4,5,6,7,8],[0,1,2,3,4,5,6,7,8,9]] rfl
    (aF G G (aC G G ?_) (aF G G (aC G G ?_) (aF G G (aC G G ?_) (aF G G (aC G G ?_) (aF G G (aC G G ?_) (aF G G (aC G G ?_) (aF G G (aC G G ?_) (aF G G (aC G G ?_) (aF G G (aC G G ?_) (aF G G (aC G G ?_) cE)))))))))) ?_
   ·exact fun _ _=>aB (mv 1 G (aE G aD G))
   ·exact fun _ _=>aB (mv 1 G (aE G aD G))
   ·exact fun _ _=>dk G G (dk G G (aB (bI G G G rK pR i G ao ar (aE G aD G))))
   ·exact fun _ cu=>dk G G (aB (aP G G (dC GX (cu.cell bf)) (aE G aD G)))
   ·exact fun _ _=>aB (mv 1 G (aE G aD G))
   ·exact fun _ _=>aB (mv 1 G (aE G aD G))
   ·intro _ ak
    have o:=q.trans ak
    refine dk G G (dk G G (aB (cl (vs:= [AT U n8 Z,v4 i]) o (F7 (Y.ext ak) (by omega) (by omega)) G (by kernel_rfl) fun _ _ bv bi p=>?_)))
    obtain rfl:=bv
    exact aE G bi rfl
   ·exact fun _ _=>dk G G (dk G G (aB (aT G G G (((ds.getD i 0:Nat):Int)-((es.getD i 0:Nat):Int)) (kB G) (aE G aD G))))
   ·exact fun _ _=>aB (mv 1 G (aE G aD G))
   ·exact fun _ _=>dk G G (dk G G (aB (aT G G G ((((ds.getD i 0:Nat):Int)-((es.getD i 0:Nat):Int))-((t:Nat):Int)) (kB G) (aE G aD G))))
   ·intro _ E
    have o:=q.trans E
    refine dk G G (dk G G (dk G G (dk G G (dk G G (dk G G (dk G G (dk G G (dk G G (dk G G (aB (mv 1 G (aR (cF ?_)))))))))))))
    refine aK (sr (mv 1 G (aA (aH (sr (mv 1 G (aN G G G true (uF (by omega)) (aA (bB G (sr (mv 1 G (aT G G G ((ds.getD i 0+65536-es.getD i 0-t:Nat):Int) (GW (by omega) (by omega) (by omega)) (mv 1 G ?_)))))))))))))
    refine aA (aJ (mv 1 G (aA (aJ (mv 3 G (bI G G G rK pR i G ⟨h,i,none⟩ (dN _ _) ?_))))))
    have bd:=(hb.ext E)
    refine eJ G G G pR G bd (gQ (by rw [hl];omega)) G ((l.set i (ds.getD i 0+65536-es.getD i 0-t)).map I6) (oK _ _ _) fun br au M _=>?_
    have p:=M.ext o aj
    refine aR (bM (aK (aJ (mv 1 G (aT G G G ((i+1:Nat):Int) (bK (a:=i) (b:=1) G G) (mv 1 G (aR (bX (⟨br,i+1,1,_⟩:a7×Nat×Nat×List Nat) ⟨p,(by omega),(by decide),au,(iF (l:=l) (hl)),iM X _,BK (by omega) (by omega) hv (by omega),(Ri.updL (V.ext E) M ag),(Ri.updL (Y.ext E) M ae)⟩ (show f-(i+1)<f-i by omega) G ⟨rfl,rfl,rfl,rfl,rfl,Fo⟩))))))))
 ·refine aJ (mv 2 G (pu (v:= v4 f) G (aN G G G false (cL (a:=i) (b:=f) G G) (aA (aV G (cR (cK (cN (cO (aK (aH ?_)))))))))))
  obtain rfl:f=i:=by omega
  have ct:=KH bu cp (SB hle) am hl X hv
  refine aJ (mv 1 G (cl (vs:= [AT (some ⟨h,0,none⟩) f f]) q (PV q.size (hb.ri0 X hl (by omega)) (by omega)) G (by kernel_rfl) fun _ _ bm _ o=>?_))
  obtain⟨bt,ci,cn,rfl,ai,an⟩:=bm
  refine mv 2 G (aA (bD (bC [AT bt ci cn,I0] G ⟨rfl,rfl,Fo⟩ ?_)))
  rw [ct] at ai an
  exact⟨_,rfl,⟨_,_,rfl,⟨_,_,_,rfl,ai,an⟩,rfl⟩,o⟩
def TR (A:Option aG)(n c:Nat)(xs:List Nat)(v:aI)(_:a7):Prop:=∃k,v= AT A k c∧k≤n∧(k=0∨xs.getD (k-1) 0≠0)∧∀b,nb b (xs.take k)=nb b xs
theorem JO (hk:k>0)(hl:k≤xs.length)(h0:xs.getD (k-1) 0=0)(hv:∀b,nb b (xs.take k)=nb b xs)(b:Nat):nb b (xs.take (k-1))=nb b xs:=by
 rw [←hv b,←xS b xs (k-1) (by omega) h0,Nat.sub_add_cancel hk]
theorem BP (A:Option aG)(c k:Nat):Value.slice (if c=0 then A else A.map (·.add (0*1))) (k-0) (c-0)= AT A k c:=by
 have f:A.map (·.add (0*1))=A:=by
  cases A with
  | none=>rfl
  | some a=>simp [T9]
 rw [f,ite_self];rfl
def WD (m:Nat)(v:aI)(w:a7):Prop:=∃A k c,v= AT A k c∧Rd w A k c (db 4294967296 m)
theorem iS:2≤4294967296:=by decide
theorem sQ:WB=4294967296^2:=by decide
theorem Wfb.wf (h:Wfb 4294967296 xs):Wf xs:=fun x hx=>Nat.lt_trans (h x hx) (by decide)
theorem Bk.rd0 (h:Bk w g t (l.map aY))(hw:Wf l)(hl:l.length=N)(hN:N≤9223372036854775807):Rd w (some ⟨g,0,none⟩) N N l:=by
 have:=h.rd hw (o:=0) (n:=N) (cap:=N) (aS _) (by omega) (by rw [eB];exact hN)
 rwa [i9,List.take_of_length_le (Nat.le_of_eq hl)] at this
theorem Rd.trim (h:Rd w A n c xs)(hw:Wfb 4294967296 xs)(hk:k≤n)(ht:k=0∨xs.getD (k-1) 0≠0)(hv:∀b,nb b (xs.take k)=nb b xs):Rd w A k c (db 4294967296 (nb 4294967296 xs)):=by
 rw [uW iS hw (by rw [h.len];exact hk) (hv _) ht]
 exact h.take hk (by have:=h.rv.le;omega) (aS _)
theorem OE {x:Nat}(hl:2*i+1<l.length)(hi:i<xs.length)(hx:xs.getD i 0=x)(h:nb 4294967296 (l.take (2*i))=nv (xs.take i)):nb 4294967296 (((l.set (2*i) (x%4294967296)).set (2*i+1) (x/4294967296)).take (2*(i+1)))=nv (xs.take (i+1)):=by
 rw [show 2*(i+1)=2*i+1+1 by omega,oI 4294967296 (by rw [List.length_set];exact hl),oI 4294967296 (by omega),h,eE xs i hi,hx,sQ,←Nat.pow_mul,dJ,bZ,iW,←cS,jN]
structure WI (ys l:List Nat)(i:Nat):Prop where
 wf:Wf l
 v:nv l=nb 4294967296 (ys.take i)
 z:∀j,i≤2*j→l.getD j 0=0
 o:i%2=1→l.getD (i/2) 0<4294967296
theorem WI.start (ys:List Nat)(N:Nat):WI ys (dL N 0) 0:=by
 refine⟨fun x hx=>by rw [(List.mem_replicate.1 hx).2];decide,?_,fun j _=>?_,fun h=>by omega⟩
 ·rw [mG,xR];rfl
 ·rw [bE]
  by_cases h:j<N
  ·rw [List.getElem?_replicate_of_lt h];rfl
  ·rw [gM (by rw [List.length_replicate];omega)];rfl
theorem WI.even (h:WI ys l i)(he:i%2=0)(hi:i<ys.length)(hl:i/2<l.length)(hd:ys.getD i 0<4294967296):WI ys (l.set (i/2) (ys.getD i 0)) (i+1):=by
 have o:=h.z (i/2) (by omega)
 have f:=nG hl (ys.getD i 0)
 refine⟨fW h.wf _ (Nat.lt_trans hd (by decide)),?_,fun j hj=>?_,fun _=>?_⟩
 ·rw [gX 4294967296 ys i hi,←h.v]
  rw [o,fX,eI,sQ,←Nat.pow_mul,show 2*(i/2)=i by omega] at f
  exact f
 ·rw [getD_set_ne (by omega),h.z j (by omega)]
 ·rw [show (i+1)/2=i/2 by omega,qD hl];exact hd
theorem WI.odd (h:WI ys l i)(he:i%2=1)(hi:i<ys.length)(hl:i/2<l.length)(hd:ys.getD i 0<4294967296):WI ys (l.set (i/2) (l.getD (i/2) 0+ys.getD i 0*4294967296)) (i+1):=by
 have p:=h.o he
 have f:=nG hl (l.getD (i/2) 0+ys.getD i 0*4294967296)
 refine⟨fW h.wf _ (by rw [cI];omega),?_,fun j hj=>?_,fun h=>by omega⟩
 ·have e:WB^(i/2)*4294967296=4294967296^i:=by
   rw [sQ,←Nat.pow_mul,←dJ,show (2*(i/2)).succ=i by omega]
  rw [gX 4294967296 ys i hi,←h.v,←e]
  rw [cS] at f
  have o:WB^(i/2)*(ys.getD i 0*4294967296)=WB^(i/2)*4294967296*ys.getD i 0:=by rw [cM (ys.getD i 0),bZ]
  omega
 ·rw [getD_set_ne (by omega),h.z j (by omega)]
theorem WI.done (h:WI ys l k)(hk:ys.length=k)(hl:l.length=(k+1)/2)(hv:nb 4294967296 ys=nb 4294967296 xs)(ht:k=0∨ys.getD (k-1) 0≠0):l.take ((k+1)/2)=wd (nb 4294967296 xs):=by
 have f:nv l=nb 4294967296 xs:=by rw [h.v,List.take_of_length_le (Nat.le_of_eq hk),hv]
 rw [List.take_of_length_le (by omega),←f]
 refine (B3 h.wf ?_).symm
 by_cases D:k=0
 ·left;omega
 ·right
  have o:ys.getD (k-1) 0≠0:=by omega
  rw [f,←hv,lO 4294967296 ys (k-1),hl]
  have E:WB^((k+1)/2-1)≤4294967296^(k-1):=by
   rw [sQ,←Nat.pow_mul]
   exact i6 (by decide) (by omega)
  have p:1≤nb 4294967296 (ys.drop (k-1)):=by
   rw [mZ (by omega),kV]
   rw [bE,cA (by omega),Option.getD_some] at o
   omega
  have q:4294967296^(k-1)*1≤4294967296^(k-1)*nb 4294967296 (ys.drop (k-1)):=fG _ p
  omega
theorem JW (h:k=0∨xs.getD (k-1) 0≠0):k=0∨(xs.take k).getD (k-1) 0≠0:=by
 by_cases f:k=0
 ·exact bS f
 ·rw [yA (by omega)];exact h
theorem oE (hx:Rd w A n cap xs)(hln:n≤1099511627776:=by omega):aQ aM 76 #[AT A n cap] w (Gv w (TR A n cap xs)):=by
 have I:=hx.len
 have V:=hx.rv.le
 refine bP Tryz.func76 G (n:=21) G (bq G) (args:= [AT A n cap]) (bH [(0,AT A n cap)] ⟨rfl,Fo⟩ (sr (mv 1 G (aA (sr (mv 1 G (pu (v:= v4 n) G (mv 1 G (aA (aH (bG ?_)))))))))))
 refine cQ (T:=a7×Nat)
  (fun⟨wr,k⟩=> [(0,AT A n cap),(3,v4 k)])
  (fun⟨wr,k⟩=>wr)
  (fun⟨wr,k⟩=>(Ext w wr)∧(k≤n)∧(∀b,nb b (xs.take k)=nb b xs)∧(Rd wr A n cap xs))
  (fun⟨wr,k⟩=>k)
  (⟨w,n⟩:a7×Nat) ⟨(Ext.refl w),aS _,fun b=>by rw [List.take_of_length_le (by omega)],hx⟩ G ⟨rfl,rfl,Fo⟩ ?_
 rintro⟨wr,k⟩ ⟨f,L,F,h⟩
 refine cP [(0,AT A n cap),(3,v4 k)] wr G ⟨rfl,rfl,Fo⟩ (aH (aH ?_))
 by_cases D:k>0
 ·by_cases H:xs.getD (k-1) 0=0
  ·refine aJ (mv 1 G (aN G G G true (nT (a:=k) (b:=0) G G) (mv 3 G (aT G G G ((k-1:Nat):Int) (kC (a:=k) (b:=1) G G) ?_))))
   obtain⟨M,o,E,_⟩:=(h).at (i:=k-1) (by omega)
   refine bI G G G bT bL (k-1) G M o (aP G G (dC d6 E) (aN G G G true (mR (a:=xs.getD (k-1) 0) (b:=0) G G) (pu (v:= By) G (aA (bB G (b8 (aK (bG (aJ (mv 1 G (aT G G G ((k-1:Nat):Int) (kC (a:=k) (b:=1) G G) (mv 1 G (aR ?_)))))))))))))
   refine bM (bX (⟨wr,k-1⟩:a7×Nat) ⟨f,(by omega),JO D (by omega) H F,h⟩ (show k-1<k by omega) G ⟨rfl,rfl,Fo⟩)
  ·refine aJ (mv 1 G (aN G G G true (nT (a:=k) (b:=0) G G) (mv 3 G (aT G G G ((k-1:Nat):Int) (kC (a:=k) (b:=1) G G) ?_))))
   obtain⟨U,p,q,_⟩:=(h).at (i:=k-1) (by omega)
   refine bI G G G bT bL (k-1) G U p (aP G G (dC d6 q) (aN G G G false (nV (a:=xs.getD (k-1) 0) (b:=0) G G) (pu (v:= BY) G (aA (aV G (cR (cK (cN (cO (aK (sr (mv 2 G (pN G G bT bL (lo:=0) (hi:=k) G G (by omega) (by omega) (v:= AT A k cap) (BP _ _ _) (by decide) ?_)))))))))))))
   refine mv 1 G (aA (bD (bC [AT A k cap] G ⟨rfl,Fo⟩ ?_)))
   exact⟨_,rfl,⟨k,rfl,L,bW H,F⟩,f⟩
 ·refine aJ (mv 1 G (aN G G G false (nU (a:=k) (b:=0) G G) (mv 7 G (pu (v:= BY) G (aA (aV G (cR (cK (cN (cO (aK (sr (mv 1 G ?_)))))))))))))
  refine mv 1 G (pN G G bT bL (lo:=0) (hi:=k) G G (by omega) (by omega) (v:= AT A k cap) (BP _ _ _) (by decide) (mv 1 G (aA (bD (bC [AT A k cap] G ⟨rfl,Fo⟩ ?_)))))
  exact⟨_,rfl,⟨k,rfl,L,bS (by omega),F⟩,f⟩
theorem tV (hx:Rd w A n cap xs)(hln:n≤274877906944:=by omega):aQ aM 93 #[AT A n cap] w (Gv w (WD (nv xs))):=by
 have bd:=hx.len
 have bp:=hx.rv.le
 refine bP Tryz.func93 G (n:=38) G (bq G) (args:= [AT A n cap]) (bH [(0,AT A n cap)] ⟨rfl,Fo⟩ (sr (mv 1 G (aA (sr (mv 1 G (cl (vs:= [AT A n cap]) (Ext.refl w) (oE hx) G (by kernel_rfl) fun _ _ r3 e2 q=>?_)))))))
 obtain⟨f,rfl,an,_,ar⟩:=r3
 have o:=((hx.ext e2)).take an (by omega) (aS _)
 refine mv 1 G (aA (aH ?_))
 obtain⟨ys,L⟩:∃ys,xs.take f=ys:=⟨_,rfl⟩
 have ao:nv ys=nv xs:=by rw [←L,mG,mG];exact ar _
 rw [L] at o
 have bh:=o.len
 refine aJ (mv 1 G (pu (v:= v4 f) G (aT G G G ((2*f:Nat):Int) (vI (a:=2) (b:=f) G G) (mA G (k:=2*f) G G G bT iG G fun D v6 ag M e9=>?_))))
 rw [jC] at M
 have F:w.heap.size≤D:=by rw [←ag];exact q.size
 have p:0<cap→∀a,A=some a→a.block≠D:=fun hc a ha=>by have:=(o).rv.blk a ha hc;omega
 clear ag
 have h:=q.trans e9
 refine mv 1 G (aA (aH (sr (mv 1 G (aA (bG ?_))))))
 refine cQ (T:=a7×Nat×List Nat)
  (fun⟨wr,i,l⟩=> [(0,AT A f cap),(3,AT (some ⟨D,0,none⟩) (2*f) (2*f)),(4,v4 i)])
  (fun⟨wr,i,l⟩=>wr)
  (fun⟨wr,i,l⟩=>(Ext w wr)∧(i≤f)∧(Bk wr D 36 (l.map aY))∧(l.length=2*f)∧(Wfb 4294967296 l)∧(nb 4294967296 (l.take (2*i))=nv (ys.take i))∧(Rd wr A f cap ys))
  (fun⟨wr,i,l⟩=>f-i)
  (⟨v6,0,_⟩:a7×Nat×List Nat) ⟨h,bJ _,M,(List.length_replicate (n:=2*f) (a:=0)),oY (by decide) _,by simp [nb,nv],(o.ext e9)⟩ G ⟨rfl,rfl,rfl,Fo⟩ ?_
 rintro⟨wr,i,l⟩ ⟨q,hi,hb,hl,E,hv,I⟩
 refine cP [(0,AT A f cap),(3,AT (some ⟨D,0,none⟩) (2*f) (2*f)),(4,v4 i)] wr G ⟨rfl,rfl,rfl,Fo⟩ (aH (aH ?_))
 by_cases bj:i<f
 ·refine aJ (mv 2 G (pu (v:= v4 f) G (aN G G G true (cG (a:=i) (b:=f) G G) (aA (bB G (b8 (aK (aH (bG (aH ?_))))))))))
  have bg:ys.getD i 0≤18446744073709551615:=by have:=p8 o.wf i;rw [cI] at this;omega
  refine aJ (mv 2 G (aT G G G ((2*i:Nat):Int) (vI (a:=2) (b:=i) G G) (mv 2 G ?_)))
  obtain⟨am,ab,ai,_⟩:=(I).at (i:=i) (by omega)
  refine bI G G G bT bL i G am ab (aP G G (dC d6 ai) (aT G G G (((ys.getD i 0)%4294967296:Nat):Int) (jL (a:=ys.getD i 0) (b:=4294967296) G G) (bI G G G bT bL (2*i) G ⟨D,2*i,none⟩ (dN _ _) ?_)))
  have W:=hb
  refine eJ G G G bL G W (gQ (by rw [hl];omega)) G ((l.set (2*i) ((ys.getD i 0)%4294967296)).map aY) (dO _ _ _) fun _ Z H _=>?_
  have h:=H.ext q F
  refine aA (aJ (mv 2 G (aT G G G ((2*i:Nat):Int) (vI (a:=2) (b:=i) G G) (aT G G G (((2*i)+1:Nat):Int) (bK (a:=2*i) (b:=1) G G) (mv 2 G ?_)))))
  obtain⟨ak,Y,ae,_⟩:=((Rd.updL I H p)).at (i:=i) (by omega)
  refine bI G G G bT bL i G ak Y (aP G G (dC d6 ae) (aT G G G (((ys.getD i 0)/4294967296:Nat):Int) (j6 (a:=ys.getD i 0) (b:=4294967296) G G) (bI G G G bT bL ((2*i)+1) G ⟨D,(2*i)+1,none⟩ (dN _ _) (eJ G G G bL G Z (gQ (by rw [(iF (l:=l) (hl))];omega)) G (((l.set (2*i) ((ys.getD i 0)%4294967296)).set ((2*i)+1) ((ys.getD i 0)/4294967296)).map aY) (dO _ _ _) fun aq aj X _=>?_))))
  have au:=X.ext h F
  refine aR (bM (aK (aJ (mv 1 G (aT G G G ((i+1:Nat):Int) (bK (a:=i) (b:=1) G G) (mv 1 G (aR (bX (⟨aq,i+1,_⟩:a7×Nat×List Nat) ⟨au,(by omega),aj,(iF (l:=l.set (2*i) ((ys.getD i 0)%4294967296)) ((iF (l:=l) (hl)))),iM (iM E _ (hx:=(gB _ (by decide)))) _,OE (by omega) (by omega) G hv,(Rd.updL (Rd.updL I H p) X p)⟩ (show f-(i+1)<f-i by omega) G ⟨rfl,rfl,rfl,Fo⟩))))))))
 ·refine aJ (mv 2 G (pu (v:= v4 f) G (aN G G G false (cL (a:=i) (b:=f) G G) (aA (aV G (cR (cK (cN (cO (aK (aH ?_)))))))))))
  obtain rfl:f=i:=by omega
  have ah:nb 4294967296 l=nv xs:=by rw [←ao];rwa [List.take_of_length_le (by omega),List.take_of_length_le (by omega)] at hv
  refine aJ (mv 1 G (cl (vs:= [AT (some ⟨D,0,none⟩) (2*f) (2*f)]) q (oE (hb.rd0 E.wf hl (by omega))) G (by kernel_rfl) fun _ _ aw az h=>?_))
  obtain⟨av,rfl,aa,U,V⟩:=aw
  refine mv 1 G (aA (bD (bC [AT (some ⟨D,0,none⟩) av (2*f)] G ⟨rfl,Fo⟩ ?_)))
  have hr:=((hb.ext az).rd0 E.wf hl (by omega)).trim E aa U V
  rw [ah] at hr
  exact⟨_,rfl,⟨_,_,_,rfl,hr⟩,h⟩
theorem LM (hx:Rd w A n cap xs)(hln:n≤1099511627776)(hwx:Wfb 4294967296 xs):aQ aM 95 #[AT A n cap] w (Gv w (WR w.heap.size (nb 4294967296 xs))):=by
 have bg:=hx.len
 have br:=hx.rv.le
 refine bP Tryz.func95 G (n:=45) G (bq G) (args:= [AT A n cap]) (bH [(0,AT A n cap)] ⟨rfl,Fo⟩ (sr (mv 1 G (aA (sr (mv 1 G (cl (vs:= [AT A n cap]) (Ext.refl w) (oE hx) G (by kernel_rfl) fun _ _ r3 e2 o=>?_)))))))
 obtain⟨f,rfl,av,ba,az⟩:=r3
 have E:=((hx.ext e2)).take av (by omega) (aS _)
 refine mv 1 G (aA (aH ?_))
 have X:Wfb 4294967296 (xs.take f):=jM hwx _
 have ao:=JW ba
 have aa:=az 4294967296
 obtain⟨ys,ar⟩:∃ys,xs.take f=ys:=⟨_,rfl⟩
 rw [ar] at E X ao aa
 have aw:=E.len
 refine aJ (mv 1 G (pu (v:= v4 f) G (aT G G G ((f+1:Nat):Int) (bK (a:=f) (b:=1) G G) (aT G G G (((f+1)/2:Nat):Int) (oW (a:=f+1) (b:=2) G G) (mA G (k:=(f+1)/2) G G G bT iG G fun h v6 ai L e9=>?_)))))
 rw [jC] at L
 have D:w.heap.size≤h:=by rw [←ai];exact o.size
 have H:0<cap→∀a,A=some a→a.block≠h:=fun hc a ha=>by have:=(E).rv.blk a ha hc;omega
 clear ai
 have q:=o.trans e9
 refine mv 1 G (aA (aH (sr (mv 1 G (aA (bG ?_))))))
 refine cQ (T:=a7×Nat×List Nat)
  (fun⟨wr,i,l⟩=> [(0,AT A f cap),(3,AT (some ⟨h,0,none⟩) ((f+1)/2) ((f+1)/2)),(4,v4 i)])
  (fun⟨wr,i,l⟩=>wr)
  (fun⟨wr,i,l⟩=>(Ext w wr)∧(i≤f)∧(Bk wr h 36 (l.map aY))∧(l.length=(f+1)/2)∧(WI ys l i)∧(Rd wr A f cap ys))
  (fun⟨wr,i,l⟩=>f-i)
  (⟨v6,0,_⟩:a7×Nat×List Nat) ⟨q,bJ _,L,(List.length_replicate (n:=(f+1)/2) (a:=0)),WI.start _ _,(E.ext e9)⟩ G ⟨rfl,rfl,rfl,Fo⟩ ?_
 rintro⟨wr,i,l⟩ ⟨o,hi,hb,hl,hI,F⟩
 refine cP [(0,AT A f cap),(3,AT (some ⟨h,0,none⟩) ((f+1)/2) ((f+1)/2)),(4,v4 i)] wr G ⟨rfl,rfl,rfl,Fo⟩ (aH (aH ?_))
 by_cases bm:i<f
 ·refine aJ (mv 2 G (pu (v:= v4 f) G (aN G G G true (cG (a:=i) (b:=f) G G) (aA (bB G (b8 (aK (aH (bG (aH ?_))))))))))
  have V:=j8 (b:=4294967296) X i
  by_cases hp:i%2=0
  ·refine aJ (mv 1 G (aT G G G ((i%2:Nat):Int) (jL (a:=i) (b:=2) G G) (aN G G G true (mR (a:=i%2) (b:=0) G G) (aA (bB G (aJ (mv 2 G (aT G G G ((i/2:Nat):Int) (oW (a:=i) (b:=2) G G) (mv 2 G ?_)))))))))
   obtain⟨au,ah,aj,_⟩:=(F).at (i:=i) (by omega)
   refine bI G G G bT bL i G au ah (aP G G (dC d6 aj) (bI G G G bT bL (i/2) G ⟨h,i/2,none⟩ (dN _ _) ?_))
   have M:=hb
   refine eJ G G G bL G M (gQ (by rw [hl];omega)) G ((l.set (i/2) (ys.getD i 0)).map aY) (dO _ _ _) fun bd Z U _=>?_
   have q:=U.ext o D
   refine aR (bM (aK (aJ (mv 1 G (aT G G G ((i+1:Nat):Int) (bK (a:=i) (b:=1) G G) (mv 1 G (aR (bX (⟨bd,i+1,_⟩:a7×Nat×List Nat) ⟨q,(by omega),Z,(iF (l:=l) (hl)),hI.even hp (by omega) (by omega) V,(Rd.updL F U H)⟩ (show f-(i+1)<f-i by omega) G ⟨rfl,rfl,rfl,Fo⟩))))))))
  ·have aC:=hI.o (by omega)
   refine aJ (mv 1 G (aT G G G ((i%2:Nat):Int) (jL (a:=i) (b:=2) G G) (aN G G G false (nV (a:=i%2) (b:=0) G G) (aA (aV G (bH [(0,AT A f cap),(3,AT (some ⟨h,0,none⟩) ((f+1)/2) ((f+1)/2)),(4,v4 i),(12,v4 i),(13,AT A f cap),(14,v4 f),(15,By),(18,v4 i),(19,v4 ((i%2:Nat):Int)),(20,BY)] ⟨rfl,rfl,rfl,rfl,rfl,rfl,rfl,rfl,rfl,rfl,Fo⟩ ?_))))))
   obtain⟨an,hv,p⟩:∃v,v=wr.drew∧Ext wr v:=⟨_,rfl,aD.drew⟩
   have q:=o.trans p
   obtain⟨I,ak,am,_⟩:=((F.ext p)).at (i:=i) (by omega)
   have ab:=(hb.ext p)
   obtain⟨ae,Y,ag,W,_⟩:=tQ (P:=aM) (v:= AI (((l.getD (i/2) 0)+((ys.getD i 0)*4294967296):Nat):Int)) (off:=i/2) bL G ab (gQ (by rw [hl];omega)) G ((l.set (i/2) ((l.getD (i/2) 0)+((ys.getD i 0)*4294967296))).map aY) (dO _ _ _)
   have bc:=W.ext q D
   refine gI bR (w:=an) [AT (some ⟨h,0,none⟩) ((f+1)/2) ((f+1)/2),v4 i,v4 ((i/2:Nat):Int),AT (some ⟨h,0,none⟩) ((f+1)/2) ((f+1)/2),v4 i,v4 ((i/2:Nat):Int),.pointer (some (⟨h,i/2,none⟩)),AI ((l.getD (i/2) 0:Nat):Int),AT A f cap,v4 i,.pointer (some I),AI ((ys.getD i 0:Nat):Int),AI (((ys.getD i 0)*4294967296:Nat):Int),AI (((l.getD (i/2) 0)+((ys.getD i 0)*4294967296):Nat):Int),.pointer (some (⟨h,i/2,none⟩)),undef] [an,ae] [15] [[],[],[1],[],[],[4],[3,5],[6],[],[],[8,9],[10],[11],[7,12],[0,2],[13,14]] [[],[],[1],[],[],[4],[3,4,5],[3,4,5,6],[],[],[8,9],[8,9,10],[8,9,10,11],[3,4,5,6,7,8,9,10,11,12],[0,1,2,3,4,5,6,7,8,9,10,11,12,13],[0,1,2,3,4,5,6,7,8,9,10,11,12,13,14]] [(0,0),(1,0),(2,0),(3,0),(4,0),(5,0),(6,0),(7,0),(8,0),(9,0),(10,0),(11,0),(12,0),(13,0),(14,0),(15,0)] G hv ?_ ?_
   ·refine aX _ G G G G G (cJ G) (aX _ G G G G G (cJ G) (aX _ G G G G G (kM G G ((i/2:Nat):Int) (oW (a:=i) (b:=2) G G)) (aX _ G G G G G (cJ G) (aX _ G G G G G (cJ G) (aX _ G G G G G (kM G G ((i/2:Nat):Int) (oW (a:=i) (b:=2) G G)) (aX _ G G G G G (gN G G bT bL (i/2) G ⟨h,i/2,none⟩ (dN _ _)) (aX _ G G G G G (cB G (gY d6 (hb.ext p) (by rw [hl];omega))) (aX _ G G G G G (cJ G) (aX _ G G G G G (cJ G) (aX _ G G G G G (gN G G bT bL i G I ak) (aX _ G G G G G (cB G (dC d6 am)) (aX _ G G G G G (kM G G (((ys.getD i 0)*4294967296:Nat):Int) (mS (a:=ys.getD i 0) (b:=4294967296) G G)) (aX _ G G G G G (kM G G (((l.getD (i/2) 0)+((ys.getD i 0)*4294967296):Nat):Int) (gS (a:=l.getD (i/2) 0) (b:=(ys.getD i 0)*4294967296) G G)) ?_)))))))))))))
    refine aX _ G G G G G (gN G G bT bL (i/2) G ⟨h,i/2,none⟩ (dN _ _)) (f7 _ G G G G G (eR G G Y) ?_)
    exact gH
   clear hv
   refine fU [(0,AT A f cap),(3,AT (some ⟨h,0,none⟩) ((f+1)/2) ((f+1)/2)),(4,v4 i),(12,v4 i),(13,AT A f cap),(14,v4 f),(15,By),(18,v4 i),(19,v4 ((i%2:Nat):Int)),(20,BY),(29,AT (some ⟨h,0,none⟩) ((f+1)/2) ((f+1)/2)),(30,v4 i),(31,v4 ((i/2:Nat):Int)),(32,AT (some ⟨h,0,none⟩) ((f+1)/2) ((f+1)/2)),(33,v4 i),(34,v4 ((i/2:Nat):Int)),(35,.pointer (some (⟨h,i/2,none⟩))),(36,AI ((l.getD (i/2) 0:Nat):Int)),(37,AT A f cap),(38,v4 i),(39,.pointer (some I)),(40,AI ((ys.getD i 0:Nat):Int)),(41,AI (((ys.getD i 0)*4294967296:Nat):Int)),(42,AI (((l.getD (i/2) 0)+((ys.getD i 0)*4294967296):Nat):Int)),(43,.pointer (some (⟨h,i/2,none⟩)))] ⟨rfl,rfl,rfl,rfl,rfl,rfl,rfl,rfl,rfl,rfl,rfl,rfl,rfl,rfl,rfl,rfl,rfl,rfl,rfl,rfl,rfl,rfl,rfl,rfl,rfl,Fo⟩ (bM (aK (aJ (mv 1 G (aT G G G ((i+1:Nat):Int) (bK (a:=i) (b:=1) G G) (mv 1 G (aR (bX (⟨ae,i+1,_⟩:a7×Nat×List Nat) ⟨bc,(by omega),ag,(iF (l:=l) (hl)),hI.odd (by omega) (by omega) (by omega) V,(Rd.updL (F.ext p) W H)⟩ (show f-(i+1)<f-i by omega) G ⟨rfl,rfl,rfl,Fo⟩))))))))
 ·refine aJ (mv 2 G (pu (v:= v4 f) G (aN G G G false (cL (a:=i) (b:=f) G G) (aA (aV G (cR (cK (cN (cO (aK (sr (mv 2 G (aR ?_)))))))))))))
  refine aK (bD (bC [AT (some ⟨h,0,none⟩) ((f+1)/2) ((f+1)/2)] G ⟨rfl,Fo⟩ ?_))
  obtain rfl:f=i:=by omega
  exact gw (aS _) _ _ (pA (ys:=l) D hb hl (aS _) (by rw [eB];omega) (hI.done aw hl aa ao) o)
def AR (b N m:Nat)(v:aI)(w:a7):Prop:=∃g l,v= AT (some ⟨g,0,none⟩) N N∧b≤g∧Bk w g 36 (l.map aY)∧l.length=N∧Wfb 4294967296 l∧nb 4294967296 l=m
theorem LG (hl:i<l.length)(hi:i<xs.length)(h:nb 4294967296 (l.take i)+4294967296^i*c=nb 4294967296 (xs.take i)*f):nb 4294967296 ((l.set i ((xs.getD i 0*f+c)%4294967296)).take (i+1))+4294967296^(i+1)*((xs.getD i 0*f+c)/4294967296)=nb 4294967296 (xs.take (i+1))*f:=by
 rw [oI 4294967296 hl,dJ,bZ,iW,←cS,jN,gX 4294967296 xs i hi,dV,←h,cS,bZ]
 omega
theorem CH (hx:Rd w A n cap xs)(hln:n≤274877906944)(hwx:Wfb 4294967296 xs)(hf:f≤4294967295):aQ aM 118 #[AT A n cap,AI f] w (Gv w (AR w.heap.size (n+1) (nb 4294967296 xs*f))):=by
 have ai:=hx.len
 have ao:=hx.rv.le
 refine bP Tryz.func118 G (n:=40) G (bq G) (args:= [AT A n cap,AI f]) (bH [(0,AT A n cap),(1,AI f)] ⟨rfl,rfl,Fo⟩ (sr (mv 1 G (aA (sr (mv 1 G (pu (v:= v4 n) G (aT G G G ((n+1:Nat):Int) (bK (a:=n) (b:=1) G G) (mA G (k:=n+1) G G G bT iG G fun o v2 D E e5=>?_)))))))))
 rw [jC] at E
 have q:w.heap.size≤o:=by rw [←D];exact (Ext.refl w).size
 have aa:0<cap→∀a,A=some a→a.block≠o:=fun hc a ha=>by have:=(hx).rv.blk a ha hc;omega
 clear D
 have h:=(Ext.refl w).trans e5
 refine mv 1 G (aA (sr (mv 1 G (aA (aH (sr (mv 1 G (aA (bG ?_)))))))))
 refine cQ (T:=a7×Nat×Nat×List Nat)
  (fun⟨wr,i,c,l⟩=> [(0,AT A n cap),(1,AI f),(5,AT (some ⟨o,0,none⟩) (n+1) (n+1)),(6,AI c),(7,v4 i)])
  (fun⟨wr,i,c,l⟩=>wr)
  (fun⟨wr,i,c,l⟩=>(Ext w wr)∧(i≤n)∧(c≤4294967295)∧(Bk wr o 36 (l.map aY))∧(l.length=n+1)∧(Wfb 4294967296 l)∧(nb 4294967296 (l.take i)+4294967296^i*c=nb 4294967296 (xs.take i)*f)∧(Rd wr A n cap xs))
  (fun⟨wr,i,c,l⟩=>n-i)
  (⟨v2,0,0,_⟩:a7×Nat×Nat×List Nat) ⟨h,bJ _,bJ _,E,(List.length_replicate (n:=n+1) (a:=0)),oY (by decide) _,by simp [nb],(hx.ext e5)⟩ G ⟨rfl,rfl,rfl,rfl,rfl,Fo⟩ ?_
 rintro⟨wr,i,c,l⟩ ⟨h,hi,hc,hb,hl,V,hv,U⟩
 refine cP [(0,AT A n cap),(1,AI f),(5,AT (some ⟨o,0,none⟩) (n+1) (n+1)),(6,AI c),(7,v4 i)] wr G ⟨rfl,rfl,rfl,rfl,rfl,Fo⟩ (aH (aH ?_))
 by_cases am:i<n
 ·refine aJ (mv 2 G (pu (v:= v4 n) G (aN G G G true (cG (a:=i) (b:=n) G G) (aA (bB G (b8 (aK (aH (bG (aH ?_))))))))))
  have aj:=j8 (b:=4294967296) hwx i
  have hm:(xs.getD i 0)*f≤4294967295*4294967295:=kE (by omega) hf
  refine aJ (mv 2 G ?_)
  obtain⟨p9,W,Y,_⟩:=(U).at (i:=i) (by omega)
  refine bI G G G bT bL i G p9 W (aP G G (dC d6 Y) (mv 1 G (aT G G G (((xs.getD i 0)*f:Nat):Int) (mS (a:=xs.getD i 0) (b:=f) G G) (mv 1 G (aT G G G ((((xs.getD i 0)*f)+c:Nat):Int) (gS (a:=(xs.getD i 0)*f) (b:=c) G G) (mv 1 G (aA (sr (mv 3 G (aT G G G (((((xs.getD i 0)*f)+c)%4294967296:Nat):Int) (jL (a:=((xs.getD i 0)*f)+c) (b:=4294967296) G G) (bI G G G bT bL i G ⟨o,i,none⟩ (dN _ _) ?_)))))))))))
  have I:=hb
  refine eJ G G G bL G I (gQ (by rw [hl];omega)) G ((l.set i ((((xs.getD i 0)*f)+c)%4294967296)).map aY) (dO _ _ _) fun X H F _=>?_
  have p:=F.ext h q
  refine aA (aJ (mv 1 G (aT G G G (((((xs.getD i 0)*f)+c)/4294967296:Nat):Int) (j6 (a:=((xs.getD i 0)*f)+c) (b:=4294967296) G G) (mv 1 G (aR (bM (aK (aJ (mv 1 G (aT G G G ((i+1:Nat):Int) (bK (a:=i) (b:=1) G G) (mv 1 G (aR (bX (⟨X,i+1,_,_⟩:a7×Nat×Nat×List Nat) ⟨p,(by omega),(by omega),H,(iF (l:=l) (hl)),iM V _ (hx:=(gB _ (by decide))),LG (by omega) (by omega) hv,(Rd.updL U F aa)⟩ (show n-(i+1)<n-i by omega) G ⟨rfl,rfl,rfl,rfl,rfl,Fo⟩)))))))))))))
 ·refine aJ (mv 2 G (pu (v:= v4 n) G (aN G G G false (cL (a:=i) (b:=n) G G) (aA (aV G (cR (cK (cN (cO (aK (aH ?_)))))))))))
  obtain rfl:n=i:=by omega
  refine aJ (mv 2 G (pu (v:= v4 n) G (mv 1 G (bI G G G bT bL n G ⟨o,n,none⟩ (dN _ _) ?_))))
  have L:=hb
  refine eJ G G G bL G L (gQ (by rw [hl];omega)) G ((l.set n c).map aY) (dO _ _ _) fun _ M Z _=>?_
  have p:=Z.ext h q
  refine aA (sr (mv 2 G (aA (bD (bC [AT (some ⟨o,0,none⟩) (n+1) (n+1)] G ⟨rfl,Fo⟩ (⟨_,rfl,⟨_,_,rfl,q,M,(iF (l:=l) (hl)),iM V _,?_⟩,p⟩))))))
  have h2:=oI 4294967296 (l:=l) (i:=n) (by omega) c
  rw [List.take_of_length_le (by rw [List.length_set];omega)] at h2
  rw [h2,hv,List.take_of_length_le (by omega)]
def TK (g N q s:Nat)(l es:List Nat)(w:a7)(e:Ending)(w':a7):Prop:=
 e= .returned (.tuple #[])∧Upd g w w'∧∃l',Bk w' g 36 (l'.map aY)∧l'.length=N∧Wfb 4294967296 l'∧nb 4294967296 l'+q*nb 4294967296 es*4294967296^s=nb 4294967296 l
theorem tH {s e T d' c':Nat}(h:nb b l+q*nb b (es.take i)*b^s=Y+b^(s+i)*c)(hd0:l.getD (s+i) 0=d)(hT:T=c+q*e)(he:nb b (es.take (i+1))=nb b (es.take i)+b^i*e)(hk:s+i<l.length:=by omega)(hd:d'+T=d+b*c':=by omega):nb b (l.set (s+i) d')+q*nb b (es.take (i+1))*b^s=Y+b^(s+(i+1))*c':=by
 have o:=rT b hk d'
 rw [hd0] at o
 have p:q*nb b (es.take (i+1))*b^s=q*nb b (es.take i)*b^s+b^(s+i)*(q*e):=by
  rw [he,cS,dV,dU]
  congr 1
  grind
 have f:b^(s+i)*(d'+T)=b^(s+i)*(d+b*c'):=by rw [hd]
 have D:b^(s+(i+1))*c'=b^(s+i)*(b*c'):=by rw [←iW,dJ,bZ]
 rw [hT] at f
 simp only [cS] at f
 rw [p,D]
 omega
theorem BA (h:es.length≤i):nb b (es.take (i+1))=nb b (es.take i)+b^i*0:=by
 rw [List.take_of_length_le (by omega),List.take_of_length_le h];rfl
theorem BB {s:Nat}(hw:Wfb 4294967296 l')(hl:l'.length=N)(he:es.length=m)(hs:s+m≤N)(hi:s+i≤N)(hq:q*nb 4294967296 es*4294967296^s≤nb 4294967296 l)(h:nb 4294967296 l'+q*nb 4294967296 (es.take i)*4294967296^s=nb 4294967296 l+4294967296^(s+i)*c)(hend:s+i=N∨m≤i∧c=0):nb 4294967296 l'+q*nb 4294967296 es*4294967296^s=nb 4294967296 l:=by
 have o:m≤i:=by omega
 rw [List.take_of_length_le (by omega)] at h
 have p:c=0:=by
  rcases hend with f | f
  ·have E:=nI hw
   rw [hl] at E
   rw [f] at h
   refine Nat.eq_zero_of_not_pos fun D=>?_
   have F:4294967296^N*1≤4294967296^N*c:=fG _ D
   omega
  ·exact f.2
 rw [p,fX,eI] at h
 exact h
theorem tT {s:Nat}(hb0:Bk w g 36 (l.map aY))(hl0:l.length=N)(hwl:Wfb 4294967296 l)(hy:Rd w D m cd es)(hwe:Wfb 4294967296 es)(hne:0<cd→∀a,D=some a→a.block≠g)(hqb:q<4294967296)(hq:q*nb 4294967296 es*4294967296^s≤nb 4294967296 l)(hN:N≤1099511627776:=by omega)(hs:s+m≤N:=by omega):aQ aM 120 #[AT (some ⟨g,0,none⟩) N N,AT D m cd,AI q,v4 s] w (TK g N q s l es w):=by
 have W:=hy.len
 refine bP Tryz.func120 G (n:=84) G (bq G) (args:= [AT (some ⟨g,0,none⟩) N N,AT D m cd,AI q,v4 s]) (bH [(0,AT (some ⟨g,0,none⟩) N N),(1,AT D m cd),(2,AI q),(3,v4 s)] ⟨rfl,rfl,rfl,rfl,Fo⟩ (sr (mv 1 G (aA (sr (mv 1 G (aA (bG ?_))))))))
 refine cQ (T:=a7×Nat×Nat×List Nat)
  (fun⟨wr,i,c,l'⟩=> [(0,AT (some ⟨g,0,none⟩) N N),(1,AT D m cd),(2,AI q),(3,v4 s),(8,AI c),(9,v4 i)])
  (fun⟨wr,i,c,l'⟩=>wr)
  (fun⟨wr,i,c,l'⟩=>(Upd g w wr)∧(s+i≤N)∧(c≤4294967296)∧(Bk wr g 36 (l'.map aY))∧(l'.length=N)∧(Wfb 4294967296 l')∧(nb 4294967296 l'+q*nb 4294967296 (es.take i)*4294967296^s=nb 4294967296 l+4294967296^(s+i)*c)∧(Rd wr D m cd es))
  (fun⟨wr,i,c,l'⟩=>N-(s+i))
  (⟨w,0,0,l⟩:a7×Nat×Nat×List Nat) ⟨Upd.refl g w,(by omega),(by decide),hb0,hl0,hwl,by simp [nb],hy⟩ G ⟨rfl,rfl,rfl,rfl,rfl,rfl,Fo⟩ ?_
 rintro⟨wr,i,c,l'⟩ ⟨o,hi,_,hb,hl,f,p,h⟩
 refine cP [(0,AT (some ⟨g,0,none⟩) N N),(1,AT D m cd),(2,AI q),(3,v4 s),(8,AI c),(9,v4 i)] wr G ⟨rfl,rfl,rfl,rfl,rfl,rfl,Fo⟩ (aH (aH ?_))
 by_cases ao:s+i<N
 ·by_cases aq:i<m
  ·refine aJ (mv 2 G (aT G G G ((s+i:Nat):Int) (bK (a:=s) (b:=i) G G) (mv 1 G (pu (v:= v4 N) G (aN G G G true (cG (a:=s+i) (b:=N) G G) (mv 3 G (pu (v:= v4 m) G (aN G G G true (cG (a:=i) (b:=m) G G) (mv 3 G (pu (v:= By) G (pu (v:= By) G (aA (bB G ?_)))))))))))))
   refine b8 (aK (aH (bG (sr (mv 2 G (aA (aH (sr (mv 2 G (pu (v:= v4 m) G (aN G G G true (cG (a:=i) (b:=m) G G) (aA (bB G ?_)))))))))))))
   have am:=j8 (b:=4294967296) hwe i
   have hm:q*(es.getD i 0)≤4294967295*4294967295:=kE (by omega) (by omega)
   refine aJ (mv 4 G ?_)
   obtain⟨p1,X,ae,_⟩:=(h).at (i:=i) (by omega)
   refine bI G G G bT bL i G p1 X (aP G G (dC d6 ae) (aT G G G ((q*(es.getD i 0):Nat):Int) (mS (a:=q) (b:=es.getD i 0) G G) (aT G G G ((c+(q*(es.getD i 0)):Nat):Int) (gS (a:=c) (b:=q*(es.getD i 0)) G G) (mv 1 G (aA (sr (mv 1 G (aT G G G (((c+(q*(es.getD i 0)))%4294967296:Nat):Int) (jL (a:=c+(q*(es.getD i 0))) (b:=4294967296) G G) (mv 1 G (aA (sr (mv 1 G (aT G G G (((c+(q*(es.getD i 0)))/4294967296:Nat):Int) (j6 (a:=c+(q*(es.getD i 0))) (b:=4294967296) G G) ?_)))))))))))))
   refine mv 1 G (aA (aH ?_))
   have hd:=j8 (b:=4294967296) f (s+i)
   by_cases E:l'.getD (s+i) 0<(c+(q*(es.getD i 0)))%4294967296
   ·refine aJ (mv 3 G (aT G G G ((s+i:Nat):Int) (bK (a:=s) (b:=i) G G) (bI G G G bT bL (s+i) G ⟨g,s+i,none⟩ (dN _ _) (aP G G (gY d6 hb (by rw [hl];omega)) (mv 1 G (aN G G G true (cG (a:=l'.getD (s+i) 0) (b:=(c+(q*(es.getD i 0)))%4294967296) G G) (aA (bB G (sr (mv 3 G (aT G G G ((s+i:Nat):Int) (bK (a:=s) (b:=i) G G) (mv 3 G (aT G G G ((s+i:Nat):Int) (bK (a:=s) (b:=i) G G) ?_)))))))))))))
    refine bI G G G bT bL (s+i) G ⟨g,s+i,none⟩ (dN _ _) (aP G G (gY d6 hb (by rw [hl];omega)) (aT G G G (((l'.getD (s+i) 0)+4294967296:Nat):Int) (gS (a:=l'.getD (s+i) 0) (b:=4294967296) G G) (mv 1 G (aT G G G ((((l'.getD (s+i) 0)+4294967296)-((c+(q*(es.getD i 0)))%4294967296):Nat):Int) (vF (a:=(l'.getD (s+i) 0)+4294967296) (b:=(c+(q*(es.getD i 0)))%4294967296) G G) (bI G G G bT bL (s+i) G ⟨g,s+i,none⟩ (dN _ _) ?_)))))
    have ah:=hb
    refine eJ G G G bL G ah (gQ (by rw [hl];omega)) G ((l'.set (s+i) (((l'.getD (s+i) 0)+4294967296)-((c+(q*(es.getD i 0)))%4294967296))).map aY) (dO _ _ _) fun v2 aa u5 _=>(aA (aJ (mv 1 G (aT G G G ((((c+(q*(es.getD i 0)))/4294967296)+1:Nat):Int) (gS (a:=(c+(q*(es.getD i 0)))/4294967296) (b:=1) G G) (mv 1 G (aR (bM (aK (aJ (mv 1 G (aT G G G ((i+1:Nat):Int) (bK (a:=i) (b:=1) G G) (mv 1 G (aR ?_)))))))))))))
    refine bX (⟨v2,i+1,_,_⟩:a7×Nat×Nat×List Nat) ⟨o.trans u5,(by omega),(by omega),aa,(iF (l:=l') (hl)),iM f _,tH p G G (gX _ _ _ (by omega)),(Rd.updL h u5 hne)⟩ (show N-(s+(i+1))<N-(s+i) by omega) G ⟨rfl,rfl,rfl,rfl,rfl,rfl,Fo⟩
   ·refine aJ (mv 3 G (aT G G G ((s+i:Nat):Int) (bK (a:=s) (b:=i) G G) (bI G G G bT bL (s+i) G ⟨g,s+i,none⟩ (dN _ _) (aP G G (gY d6 hb (by rw [hl];omega)) (mv 1 G (aN G G G false (cL (a:=l'.getD (s+i) 0) (b:=(c+(q*(es.getD i 0)))%4294967296) G G) (aA (aV G (aJ (mv 3 G (aT G G G ((s+i:Nat):Int) (bK (a:=s) (b:=i) G G) (mv 3 G (aT G G G ((s+i:Nat):Int) (bK (a:=s) (b:=i) G G) ?_)))))))))))))
    refine bI G G G bT bL (s+i) G ⟨g,s+i,none⟩ (dN _ _) (aP G G (gY d6 hb (by rw [hl];omega)) (mv 1 G (aT G G G (((l'.getD (s+i) 0)-((c+(q*(es.getD i 0)))%4294967296):Nat):Int) (vF (a:=l'.getD (s+i) 0) (b:=(c+(q*(es.getD i 0)))%4294967296) G G) (bI G G G bT bL (s+i) G ⟨g,s+i,none⟩ (dN _ _) ?_))))
    have Y:=hb
    refine eJ G G G bL G Y (gQ (by rw [hl];omega)) G ((l'.set (s+i) ((l'.getD (s+i) 0)-((c+(q*(es.getD i 0)))%4294967296))).map aY) (dO _ _ _) fun v7 ab H _=>(aR (bM (aK (aJ (mv 1 G (aT G G G ((i+1:Nat):Int) (bK (a:=i) (b:=1) G G) (mv 1 G (aR (bX (⟨v7,i+1,_,_⟩:a7×Nat×Nat×List Nat) ⟨o.trans H,(by omega),(by omega),ab,(iF (l:=l') (hl)),iM f _,tH p G G (gX _ _ _ (by omega)),(Rd.updL h H hne)⟩ (show N-(s+(i+1))<N-(s+i) by omega) G ⟨rfl,rfl,rfl,rfl,rfl,rfl,Fo⟩)))))))))
  ·by_cases ak:c>0
   ·refine aJ (mv 2 G (aT G G G ((s+i:Nat):Int) (bK (a:=s) (b:=i) G G) (mv 1 G (pu (v:= v4 N) G (aN G G G true (cG (a:=s+i) (b:=N) G G) (mv 3 G (pu (v:= v4 m) G (aN G G G false (cL (a:=i) (b:=m) G G) (mv 2 G (aN G G G true (nT (a:=c) (b:=0) G G) (pu (v:= By) G (pu (v:= By) G (aR ?_)))))))))))))
    refine aK (bB G (b8 (aK (aH (bG (sr (mv 2 G (aA (aH (sr (mv 2 G (pu (v:= v4 m) G (aN G G G false (cL (a:=i) (b:=m) G G) ?_)))))))))))))
    refine aA (aV G (b8 (aK (sr (mv 1 G (aT G G G ((c%4294967296:Nat):Int) (jL (a:=c) (b:=4294967296) G G) (mv 1 G (aA (sr (mv 1 G (aT G G G ((c/4294967296:Nat):Int) (j6 (a:=c) (b:=4294967296) G G) (mv 1 G (aR ?_)))))))))))))
    refine aK (aH ?_)
    have hd:=j8 (b:=4294967296) f (s+i)
    by_cases E:l'.getD (s+i) 0<c%4294967296
    ·refine aJ (mv 3 G (aT G G G ((s+i:Nat):Int) (bK (a:=s) (b:=i) G G) (bI G G G bT bL (s+i) G ⟨g,s+i,none⟩ (dN _ _) (aP G G (gY d6 hb (by rw [hl];omega)) (mv 1 G (aN G G G true (cG (a:=l'.getD (s+i) 0) (b:=c%4294967296) G G) (aA (bB G (sr (mv 3 G (aT G G G ((s+i:Nat):Int) (bK (a:=s) (b:=i) G G) (mv 3 G (aT G G G ((s+i:Nat):Int) (bK (a:=s) (b:=i) G G) ?_)))))))))))))
     refine bI G G G bT bL (s+i) G ⟨g,s+i,none⟩ (dN _ _) (aP G G (gY d6 hb (by rw [hl];omega)) (aT G G G (((l'.getD (s+i) 0)+4294967296:Nat):Int) (gS (a:=l'.getD (s+i) 0) (b:=4294967296) G G) (mv 1 G (aT G G G ((((l'.getD (s+i) 0)+4294967296)-(c%4294967296):Nat):Int) (vF (a:=(l'.getD (s+i) 0)+4294967296) (b:=c%4294967296) G G) (bI G G G bT bL (s+i) G ⟨g,s+i,none⟩ (dN _ _) ?_)))))
     have U:=hb
     refine eJ G G G bL G U (gQ (by rw [hl];omega)) G ((l'.set (s+i) (((l'.getD (s+i) 0)+4294967296)-(c%4294967296))).map aY) (dO _ _ _) fun Z F M _=>(aA (aJ (mv 1 G (aT G G G (((c/4294967296)+1:Nat):Int) (gS (a:=c/4294967296) (b:=1) G G) (mv 1 G (aR (bM (aK (aJ (mv 1 G (aT G G G ((i+1:Nat):Int) (bK (a:=i) (b:=1) G G) (mv 1 G (aR ?_)))))))))))))
     refine bX (⟨Z,i+1,_,_⟩:a7×Nat×Nat×List Nat) ⟨o.trans M,(by omega),(by omega),F,(iF (l:=l') (hl)),iM f _,tH p G (T:=c) (e:=0) (by simp) (BA (by omega)),(Rd.updL h M hne)⟩ (show N-(s+(i+1))<N-(s+i) by omega) G ⟨rfl,rfl,rfl,rfl,rfl,rfl,Fo⟩
    ·refine aJ (mv 3 G (aT G G G ((s+i:Nat):Int) (bK (a:=s) (b:=i) G G) (bI G G G bT bL (s+i) G ⟨g,s+i,none⟩ (dN _ _) (aP G G (gY d6 hb (by rw [hl];omega)) (mv 1 G (aN G G G false (cL (a:=l'.getD (s+i) 0) (b:=c%4294967296) G G) (aA (aV G (aJ (mv 3 G (aT G G G ((s+i:Nat):Int) (bK (a:=s) (b:=i) G G) (mv 3 G (aT G G G ((s+i:Nat):Int) (bK (a:=s) (b:=i) G G) ?_)))))))))))))
     refine bI G G G bT bL (s+i) G ⟨g,s+i,none⟩ (dN _ _) (aP G G (gY d6 hb (by rw [hl];omega)) (mv 1 G (aT G G G (((l'.getD (s+i) 0)-(c%4294967296):Nat):Int) (vF (a:=l'.getD (s+i) 0) (b:=c%4294967296) G G) (bI G G G bT bL (s+i) G ⟨g,s+i,none⟩ (dN _ _) ?_))))
     have L:=hb
     refine eJ G G G bL G L (gQ (by rw [hl];omega)) G ((l'.set (s+i) ((l'.getD (s+i) 0)-(c%4294967296))).map aY) (dO _ _ _) fun ag I V _=>(aR (bM (aK (aJ (mv 1 G (aT G G G ((i+1:Nat):Int) (bK (a:=i) (b:=1) G G) (mv 1 G (aR (bX (⟨ag,i+1,_,_⟩:a7×Nat×Nat×List Nat) ⟨o.trans V,(by omega),(by omega),I,(iF (l:=l') (hl)),iM f _,tH p G (T:=c) (e:=0) (by simp) (BA (by omega)),(Rd.updL h V hne)⟩ (show N-(s+(i+1))<N-(s+i) by omega) G ⟨rfl,rfl,rfl,rfl,rfl,rfl,Fo⟩)))))))))
   ·refine aJ (mv 2 G (aT G G G ((s+i:Nat):Int) (bK (a:=s) (b:=i) G G) (mv 1 G (pu (v:= v4 N) G (aN G G G true (cG (a:=s+i) (b:=N) G G) (mv 3 G (pu (v:= v4 m) G (aN G G G false (cL (a:=i) (b:=m) G G) (mv 2 G (aN G G G false (nU (a:=c) (b:=0) G G) (pu (v:= BY) G (pu (v:= BY) G (aR ?_)))))))))))))
    refine aK (aV G (cR (cK (cN (cO (qG [] G Fo ?_))))))
    exact⟨rfl,o,l',hb,hl,f,BB f hl W hs hi hq p (bW ⟨by omega,by omega⟩)⟩
 ·refine aJ (mv 2 G (aT G G G ((s+i:Nat):Int) (bK (a:=s) (b:=i) G G) (mv 1 G (pu (v:= v4 N) G (aN G G G false (cL (a:=s+i) (b:=N) G G) (mv 9 G (pu (v:= BY) G (aA (aV G (cR (cK (cN (cO ?_)))))))))))))
  refine qG [] G Fo ?_
  exact⟨rfl,o,l',hb,hl,f,BB f hl W hs hi hq p (bS (by omega))⟩
theorem kA (h:k<xs.length)(b:Nat):nb b (xs.drop k)=xs.getD k 0+b*nb b (xs.drop (k+1)):=by
 rw [mZ h,kV,bE,cA h];rfl
section
set_option linter.unusedSectionVars false
variable {xs es:List Nat}{n m s:Nat}(hx:xs.length=n) (he:es.length=m) (hs:s+m≤n) (hwx:Wfb 4294967296 xs) (hwe:Wfb 4294967296 es)
include hx he hs hwx hwe
theorem EM (hbig:nb 4294967296 xs<4294967296^(s+m+1))(h0:s+m<n→xs.getD (s+m) 0=0):nb 4294967296 (xs.drop (s+m))=nb 4294967296 (es.drop m):=by
 rw [List.drop_of_length_le (l:=es) (by omega),uB]
 by_cases f:s+m<n
 ·have o:=lO 4294967296 xs (s+m)
  have h:=kA (xs:=xs) (k:=s+m) (by omega) 4294967296
  rw [h0 f,eX] at h
  rw [h] at o⊢
  refine Nat.mul_eq_zero.2 (bW (Nat.eq_zero_of_not_pos fun p=>?_))
  rw [dJ,←bZ] at*
  have q:4294967296^(s+m)*4294967296*1≤4294967296^(s+m)*4294967296*nb 4294967296 (xs.drop (s+m+1)):=fG _ p
  omega
 ·rw [List.drop_of_length_le (by omega),uB]
theorem OM (h0:s+m<n)(hp:0<xs.getD (s+m) 0):nb 4294967296 es*4294967296^s≤nb 4294967296 xs:=by
 have o:=lO 4294967296 xs (s+m)
 have q:=kA (xs:=xs) (k:=s+m) (by omega) 4294967296
 have f:=nI hwe
 rw [he] at f
 have h:nb 4294967296 es*4294967296^s≤4294967296^m*4294967296^s:=eA _ (Nat.le_of_lt f)
 rw [←dU,Nat.add_comm m s] at h
 have p:4294967296^(s+m)*1≤4294967296^(s+m)*nb 4294967296 (xs.drop (s+m)):=fG _ (by omega)
 omega
theorem EN (hj:j<m)(h:nb 4294967296 (xs.drop (s+(j+1)))=nb 4294967296 (es.drop (j+1)))(hd:xs.getD (s+j) 0<es.getD j 0):¬nb 4294967296 es*4294967296^s≤nb 4294967296 xs:=by
 have p:=kA (xs:=xs) (k:=s+j) (by omega) 4294967296
 have F:=kA (xs:=es) (k:=j) (by omega) 4294967296
 rw [iW,h] at p
 have q:=lO 4294967296 xs (s+j)
 have f:=lO 4294967296 es j
 have D:=q6 hwx (s+j)
 have o:4294967296^(s+j)*(nb 4294967296 (xs.drop (s+j))+1)≤4294967296^(s+j)*nb 4294967296 (es.drop j):=fG _ (by omega)
 have E:4294967296^(s+j)*nb 4294967296 (es.drop j)≤nb 4294967296 es*4294967296^s:=by
  rw [f,dV,dU,bZ,cM (4294967296^s)]
  exact Nat.le_add_left _ _
 rw [cS] at o
 omega
theorem EO (hj:j<m)(h:nb 4294967296 (xs.drop (s+(j+1)))=nb 4294967296 (es.drop (j+1)))(hd:xs.getD (s+j) 0>es.getD j 0):nb 4294967296 es*4294967296^s≤nb 4294967296 xs:=by
 have f:=kA (xs:=xs) (k:=s+j) (by omega) 4294967296
 have q:=kA (xs:=es) (k:=j) (by omega) 4294967296
 rw [iW,h] at f
 have E:=lO 4294967296 xs (s+j)
 have D:=lO 4294967296 es j
 have F:=q6 hwe j
 have p:4294967296^j*(nb 4294967296 (es.drop j)+1)≤4294967296^j*nb 4294967296 (xs.drop (s+j)):=fG _ (by omega)
 rw [cS] at p
 have o:nb 4294967296 es≤4294967296^j*nb 4294967296 (xs.drop (s+j)):=by omega
 have H:nb 4294967296 es*4294967296^s≤4294967296^j*nb 4294967296 (xs.drop (s+j))*4294967296^s:=eA _ o
 have e:4294967296^j*nb 4294967296 (xs.drop (s+j))*4294967296^s=4294967296^(s+j)*nb 4294967296 (xs.drop (s+j)):=by
  rw [dU,pE,cM (4294967296^j)]
 omega
theorem EP (h:nb 4294967296 (xs.drop (s+0))=nb 4294967296 (es.drop 0)):nb 4294967296 es*4294967296^s≤nb 4294967296 xs:=by
 have f:=lO 4294967296 xs s
 rw [eI,i9] at h
 rw [f,h,cM]
 exact Nat.le_add_left _ _
theorem EL (hj:j<m)(h:nb 4294967296 (xs.drop (s+(j+1)))=nb 4294967296 (es.drop (j+1)))(hd:xs.getD (s+j) 0=es.getD j 0):nb 4294967296 (xs.drop (s+j))=nb 4294967296 (es.drop j):=by
 rw [kA (xs:=xs) (k:=s+j) (by omega),kA (xs:=es) (k:=j) (by omega),iW,h,hd]
end
theorem LN {s:Nat}(hx:Rd w A n cap xs)(hln:n≤1099511627776)(hy:Rd w D m cd es)(hwx:Wfb 4294967296 xs)(hwe:Wfb 4294967296 es)(hs:s+m≤n)(hbig:nb 4294967296 xs<4294967296^(s+m+1)):aQ aM 119 #[AT A n cap,AT D m cd,v4 s] w (Gv w (Is (.bool (decide (nb 4294967296 es*4294967296^s≤nb 4294967296 xs))))):=by
 have o:=hx.len
 have cu:=hx.rv.le
 have f:=hy.len
 refine bP Tryz.func119 G (n:=53) G (bq G) (args:= [AT A n cap,AT D m cd,v4 s]) (bH [(0,AT A n cap),(1,AT D m cd),(2,v4 s)] ⟨rfl,rfl,rfl,Fo⟩ (sr (mv 1 G (aA (sr (mv 2 G (pu (v:= v4 m) G (aT G G G ((s+m:Nat):Int) (bK (a:=s) (b:=m) G G) (mv 1 G (aA (aH (aH ?_))))))))))))
 by_cases ag:s+m<n
 ·by_cases bu:xs.getD (s+m) 0>0
  ·refine aJ (mv 2 G (pu (v:= v4 n) G (aN G G G true (cG (a:=s+m) (b:=n) G G) (mv 3 G ?_))))
   obtain⟨p1,bz,ch,_⟩:=(hx).at (i:=s+m) (by omega)
   refine bI G G G bT bL (s+m) G p1 bz (aP G G (dC d6 ch) (aN G G G true (nT (a:=xs.getD (s+m) 0) (b:=0) G G) (pu (v:= By) G (aA (bB G (sr (mv 1 G (aA (bD (cT (bC [By] G ⟨rfl,Fo⟩ ?_)))))))))))
   exact⟨_,rfl,(show Value.bool true=_ by rw [decide_eq_true (OM o f hs hwx hwe ag bu)]),(Ext.refl w)⟩
  ·have aq:=EM o f hs hwx hwe hbig (fun _=>by omega)
   refine aJ (mv 2 G (pu (v:= v4 n) G (aN G G G true (cG (a:=s+m) (b:=n) G G) (mv 3 G ?_))))
   obtain⟨p2,ci,cm,_⟩:=(hx).at (i:=s+m) (by omega)
   refine bI G G G bT bL (s+m) G p2 ci (aP G G (dC d6 cm) (aN G G G false (nU (a:=xs.getD (s+m) 0) (b:=0) G G) (pu (v:= BY) G (aA (aV G (b8 (aK (aH (sr (mv 1 G (pu (v:= v4 m) G (aT G G G (((m:Nat):Int)-1) (kB G) (mv 1 G ?_)))))))))))))
   refine aA (bG ?_)
   refine cQ (T:=a7×Nat×Int)
    (fun⟨wr,k,ii⟩=> [(0,AT A n cap),(1,AT D m cd),(2,v4 s),(8,v4 ii)])
    (fun⟨wr,k,ii⟩=>wr)
    (fun⟨wr,k,ii⟩=>(Ext w wr)∧(k≤m)∧(ii=(k:Int)-1)∧(nb 4294967296 (xs.drop (s+k))=nb 4294967296 (es.drop k))∧(Rd wr A n cap xs)∧(Rd wr D m cd es))
    (fun⟨wr,k,ii⟩=>k)
    (⟨w,m,_⟩:a7×Nat×Int) ⟨(Ext.refl w),aS _,rfl,aq,hx,hy⟩ G ⟨rfl,rfl,rfl,rfl,Fo⟩ ?_
   rintro⟨wr,k,ii⟩ ⟨L,hk,cn,p,M,I⟩
   refine cP [(0,AT A n cap),(1,AT D m cd),(2,v4 s),(8,v4 ii)] wr G ⟨rfl,rfl,rfl,rfl,Fo⟩ (aH (aH ?_))
   by_cases ck:0<k
   ·obtain⟨j,rfl⟩:∃j,k=j+1:=⟨k-1,by omega⟩
    obtain rfl:ii=(j:Int):=by omega
    refine aJ (mv 1 G (aN G G G true (qJ (a:=j) (b:=0) G G) (aA (bB G (b8 (aK (aH (bG (aH ?_)))))))))
    by_cases cg:xs.getD (s+j) 0≠es.getD j 0
    ·refine bH [(0,AT A n cap),(1,AT D m cd),(2,v4 s),(8,v4 j),(27,v4 j),(28,By)] ⟨rfl,rfl,rfl,rfl,rfl,rfl,Fo⟩ ?_
     obtain⟨v3,p,e4⟩:∃v,v=wr.drew∧Ext wr v:=⟨_,rfl,aD.drew⟩
     have F:=L.trans e4
     obtain⟨W,am,az,_⟩:=((M.ext e4)).at (i:=s+j) (by omega)
     obtain⟨V,aj,bc,_⟩:=((I.ext e4)).at (i:=j) (by omega)
     refine gI bR (w:=v3) [AT A n cap,v4 s,v4 j,v4 ((s+j:Nat):Int),.pointer (some W),AI ((xs.getD (s+j) 0:Nat):Int),AT D m cd,v4 j,.pointer (some V),AI ((es.getD j 0:Nat):Int),By] [v3] [] [[],[],[],[1,2],[0,3],[4],[],[],[6,7],[8],[5,9]] [[],[],[],[1,2],[0,1,2,3],[0,1,2,3,4],[],[],[6,7],[6,7,8],[0,1,2,3,4,5,6,7,8,9]] [(0,0),(1,0),(2,0),(3,0),(4,0),(5,0),(6,0),(7,0),(8,0),(9,0),(10,0)] G p ?_ ?_
     ·refine aX _ G G G G G (cJ G) (aX _ G G G G G (cJ G) (aX _ G G G G G (cJ G) (aX _ G G G G G (kM G G ((s+j:Nat):Int) (bK (a:=s) (b:=j) G G)) (aX _ G G G G G (gN G G bT bL (s+j) G W am) (aX _ G G G G G (cB G (dC d6 az)) (aX _ G G G G G (cJ G) (aX _ G G G G G (cJ G) (aX _ G G G G G (gN G G bT bL j G V aj) (aX _ G G G G G (cB G (dC d6 bc)) (aX _ G G G G G (nE G G true (vA (a:=xs.getD (s+j) 0) (b:=es.getD j 0) G G)) ?_))))))))))
      exact gH
     clear p
     refine fU [(0,AT A n cap),(1,AT D m cd),(2,v4 s),(8,v4 j),(27,v4 j),(28,By),(31,AT A n cap),(32,v4 s),(33,v4 j),(34,v4 ((s+j:Nat):Int)),(35,.pointer (some W)),(36,AI ((xs.getD (s+j) 0:Nat):Int)),(37,AT D m cd),(38,v4 j),(39,.pointer (some V)),(40,AI ((es.getD j 0:Nat):Int)),(41,By)] ⟨rfl,rfl,rfl,rfl,rfl,rfl,rfl,rfl,rfl,rfl,rfl,rfl,rfl,rfl,rfl,rfl,rfl,Fo⟩ (aK (bB G (aH ?_)))
     by_cases ai:xs.getD (s+j) 0>es.getD j 0
     ·refine bH [(0,AT A n cap),(1,AT D m cd),(2,v4 s),(8,v4 j),(27,v4 j),(28,By),(31,AT A n cap),(32,v4 s),(33,v4 j),(34,v4 ((s+j:Nat):Int)),(35,.pointer (some W)),(36,AI ((xs.getD (s+j) 0:Nat):Int)),(37,AT D m cd),(38,v4 j),(39,.pointer (some V)),(40,AI ((es.getD j 0:Nat):Int)),(41,By)] ⟨rfl,rfl,rfl,rfl,rfl,rfl,rfl,rfl,rfl,rfl,rfl,rfl,rfl,rfl,rfl,rfl,rfl,Fo⟩ ?_
      obtain⟨v7,p,e8⟩:∃v,v=v3.drew∧Ext v3 v:=⟨_,rfl,aD.drew⟩
      have H:=F.trans e8
      refine gI bR (w:=v7) [AT A n cap,v4 s,v4 j,v4 ((s+j:Nat):Int),.pointer (some W),AI ((xs.getD (s+j) 0:Nat):Int),AT D m cd,v4 j,.pointer (some V),AI ((es.getD j 0:Nat):Int),By,By] [v7] [] [[],[],[],[1,2],[0,3],[4],[],[],[6,7],[8],[5,9],[10]] [[],[],[],[1,2],[0,1,2,3],[0,1,2,3,4],[],[],[6,7],[6,7,8],[0,1,2,3,4,5,6,7,8,9],[0,1,2,3,4,5,6,7,8,9,10]] [(0,0),(1,0),(2,0),(3,0),(4,0),(5,0),(6,0),(7,0),(8,0),(9,0),(10,0),(11,0)] G p ?_ ?_
      ·refine aX _ G G G G G (cJ G) (aX _ G G G G G (cJ G) (aX _ G G G G G (cJ G) (aX _ G G G G G (kM G G ((s+j:Nat):Int) (bK (a:=s) (b:=j) G G)) (aX _ G G G G G (gN G G bT bL (s+j) G W am) (aX _ G G G G G (cB G (dC d6 (e8.cell az))) (aX _ G G G G G (cJ G) (aX _ G G G G G (cJ G) (aX _ G G G G G (gN G G bT bL j G V aj) (aX _ G G G G G (cB G (dC d6 (e8.cell bc))) (aX _ G G G G G (nE G G true (nT (a:=xs.getD (s+j) 0) (b:=es.getD j 0) G G)) (aX _ G G G G G (kL G) ?_)))))))))))
       exact gH
      clear p
      refine fU [(0,AT A n cap),(1,AT D m cd),(2,v4 s),(8,v4 j),(27,v4 j),(28,By),(31,AT A n cap),(32,v4 s),(33,v4 j),(34,v4 ((s+j:Nat):Int)),(35,.pointer (some W)),(36,AI ((xs.getD (s+j) 0:Nat):Int)),(37,AT D m cd),(38,v4 j),(39,.pointer (some V)),(40,AI ((es.getD j 0:Nat):Int)),(41,By),(42,AT A n cap),(43,v4 s),(44,v4 j),(45,v4 ((s+j:Nat):Int)),(46,.pointer (some W)),(47,AI ((xs.getD (s+j) 0:Nat):Int)),(48,AT D m cd),(49,v4 j),(50,.pointer (some V)),(51,AI ((es.getD j 0:Nat):Int)),(52,By),(6,By)] ⟨rfl,rfl,rfl,rfl,rfl,rfl,rfl,rfl,rfl,rfl,rfl,rfl,rfl,rfl,rfl,rfl,rfl,rfl,rfl,rfl,rfl,rfl,rfl,rfl,rfl,rfl,rfl,rfl,rfl,Fo⟩ (aK (bD (iB (cT (nQ (iB (cT (bC [By] G ⟨rfl,Fo⟩ ?_))))))))
      exact⟨_,rfl,(show Value.bool true=_ by rw [decide_eq_true (EO o f hs hwx hwe (by omega) p ai)]),H⟩
     ·refine bH [(0,AT A n cap),(1,AT D m cd),(2,v4 s),(8,v4 j),(27,v4 j),(28,By),(31,AT A n cap),(32,v4 s),(33,v4 j),(34,v4 ((s+j:Nat):Int)),(35,.pointer (some W)),(36,AI ((xs.getD (s+j) 0:Nat):Int)),(37,AT D m cd),(38,v4 j),(39,.pointer (some V)),(40,AI ((es.getD j 0:Nat):Int)),(41,By)] ⟨rfl,rfl,rfl,rfl,rfl,rfl,rfl,rfl,rfl,rfl,rfl,rfl,rfl,rfl,rfl,rfl,rfl,Fo⟩ ?_
      obtain⟨v9,p,av⟩:∃v,v=v3.drew∧Ext v3 v:=⟨_,rfl,aD.drew⟩
      have H:=F.trans av
      refine gI bR (w:=v9) [AT A n cap,v4 s,v4 j,v4 ((s+j:Nat):Int),.pointer (some W),AI ((xs.getD (s+j) 0:Nat):Int),AT D m cd,v4 j,.pointer (some V),AI ((es.getD j 0:Nat):Int),F0,F0] [v9] [] [[],[],[],[1,2],[0,3],[4],[],[],[6,7],[8],[5,9],[10]] [[],[],[],[1,2],[0,1,2,3],[0,1,2,3,4],[],[],[6,7],[6,7,8],[0,1,2,3,4,5,6,7,8,9],[0,1,2,3,4,5,6,7,8,9,10]] [(0,0),(1,0),(2,0),(3,0),(4,0),(5,0),(6,0),(7,0),(8,0),(9,0),(10,0),(11,0)] G p ?_ ?_
      ·refine aX _ G G G G G (cJ G) (aX _ G G G G G (cJ G) (aX _ G G G G G (cJ G) (aX _ G G G G G (kM G G ((s+j:Nat):Int) (bK (a:=s) (b:=j) G G)) (aX _ G G G G G (gN G G bT bL (s+j) G W am) (aX _ G G G G G (cB G (dC d6 (av.cell az))) (aX _ G G G G G (cJ G) (aX _ G G G G G (cJ G) (aX _ G G G G G (gN G G bT bL j G V aj) (aX _ G G G G G (cB G (dC d6 (av.cell bc))) (aX _ G G G G G (nE G G false (nU (a:=xs.getD (s+j) 0) (b:=es.getD j 0) G G)) (aX _ G G G G G (kL G) ?_)))))))))))
       exact gH
      clear p
      refine fU [(0,AT A n cap),(1,AT D m cd),(2,v4 s),(8,v4 j),(27,v4 j),(28,By),(31,AT A n cap),(32,v4 s),(33,v4 j),(34,v4 ((s+j:Nat):Int)),(35,.pointer (some W)),(36,AI ((xs.getD (s+j) 0:Nat):Int)),(37,AT D m cd),(38,v4 j),(39,.pointer (some V)),(40,AI ((es.getD j 0:Nat):Int)),(41,By),(42,AT A n cap),(43,v4 s),(44,v4 j),(45,v4 ((s+j:Nat):Int)),(46,.pointer (some W)),(47,AI ((xs.getD (s+j) 0:Nat):Int)),(48,AT D m cd),(49,v4 j),(50,.pointer (some V)),(51,AI ((es.getD j 0:Nat):Int)),(52,BY),(6,BY)] ⟨rfl,rfl,rfl,rfl,rfl,rfl,rfl,rfl,rfl,rfl,rfl,rfl,rfl,rfl,rfl,rfl,rfl,rfl,rfl,rfl,rfl,rfl,rfl,rfl,rfl,rfl,rfl,rfl,rfl,Fo⟩ (aK (bD (iB (cT (nQ (iB (cT (bC [F0] G ⟨rfl,Fo⟩ ?_))))))))
      exact⟨_,rfl,(show Value.bool false=_ by rw [decide_eq_false (EN o f hs hwx hwe (by omega) p (by omega))]),H⟩
    ·refine bH [(0,AT A n cap),(1,AT D m cd),(2,v4 s),(8,v4 j),(27,v4 j),(28,By)] ⟨rfl,rfl,rfl,rfl,rfl,rfl,Fo⟩ ?_
     obtain⟨an,p,X⟩:∃v,v=wr.drew∧Ext wr v:=⟨_,rfl,aD.drew⟩
     have F:=L.trans X
     obtain⟨ah,bg,bv,_⟩:=((M.ext X)).at (i:=s+j) (by omega)
     obtain⟨ak,bj,bi,_⟩:=((I.ext X)).at (i:=j) (by omega)
     refine gI bR (w:=an) [AT A n cap,v4 s,v4 j,v4 ((s+j:Nat):Int),.pointer (some ah),AI ((xs.getD (s+j) 0:Nat):Int),AT D m cd,v4 j,.pointer (some ak),AI ((es.getD j 0:Nat):Int),F0] [an] [] [[],[],[],[1,2],[0,3],[4],[],[],[6,7],[8],[5,9]] [[],[],[],[1,2],[0,1,2,3],[0,1,2,3,4],[],[],[6,7],[6,7,8],[0,1,2,3,4,5,6,7,8,9]] [(0,0),(1,0),(2,0),(3,0),(4,0),(5,0),(6,0),(7,0),(8,0),(9,0),(10,0)] G p ?_ ?_
     ·refine aX _ G G G G G (cJ G) (aX _ G G G G G (cJ G) (aX _ G G G G G (cJ G) (aX _ G G G G G (kM G G ((s+j:Nat):Int) (bK (a:=s) (b:=j) G G)) (aX _ G G G G G (gN G G bT bL (s+j) G ah bg) (aX _ G G G G G (cB G (dC d6 bv)) (aX _ G G G G G (cJ G) (aX _ G G G G G (cJ G) (aX _ G G G G G (gN G G bT bL j G ak bj) (aX _ G G G G G (cB G (dC d6 bi)) (aX _ G G G G G (nE G G false (iI (a:=xs.getD (s+j) 0) (b:=es.getD j 0) G G)) ?_))))))))))
      exact gH
     clear p
     refine fU [(0,AT A n cap),(1,AT D m cd),(2,v4 s),(8,v4 j),(27,v4 j),(28,By),(31,AT A n cap),(32,v4 s),(33,v4 j),(34,v4 ((s+j:Nat):Int)),(35,.pointer (some ah)),(36,AI ((xs.getD (s+j) 0:Nat):Int)),(37,AT D m cd),(38,v4 j),(39,.pointer (some ak)),(40,AI ((es.getD j 0:Nat):Int)),(41,BY)] ⟨rfl,rfl,rfl,rfl,rfl,rfl,rfl,rfl,rfl,rfl,rfl,rfl,rfl,rfl,rfl,rfl,rfl,Fo⟩ (aK (aV G (b8 (bM (aK (aJ (mv 1 G (aT G G G (((j:Nat):Int)-1) (kB G) (mv 1 G (aR (bX (⟨an,j,_⟩:a7×Nat×Int) ⟨F,(by omega),rfl,EL o f hs hwx hwe (by omega) p (by omega),(M.ext X),(I.ext X)⟩ (show j<j+1 by omega) G ⟨rfl,rfl,rfl,rfl,Fo⟩)))))))))))
   ·obtain rfl:k=0:=by omega
    refine aJ (mv 1 G (aN G G G false (oN) (aA (aV G (cR (cK (cN (cO (aK (sr (mv 1 G (aA (bD ?_)))))))))))))
    refine bC [By] G ⟨rfl,Fo⟩ ?_
    exact⟨_,rfl,(show Value.bool true=_ by rw [decide_eq_true (EP o f hs hwx hwe p)]),L⟩
 ·have aq:=EM o f hs hwx hwe hbig (fun h=>absurd h ag)
  refine aJ (mv 2 G (pu (v:= v4 n) G (aN G G G false (cL (a:=s+m) (b:=n) G G) (mv 6 G (pu (v:= BY) G (aA (aV G (b8 (aK (aH (sr (mv 1 G (pu (v:= v4 m) G ?_)))))))))))))
  refine aT G G G (((m:Nat):Int)-1) (kB G) (mv 1 G (aA (bG ?_)))
  refine cQ (T:=a7×Nat×Int)
   (fun⟨wr,k,ii⟩=> [(0,AT A n cap),(1,AT D m cd),(2,v4 s),(8,v4 ii)])
   (fun⟨wr,k,ii⟩=>wr)
   (fun⟨wr,k,ii⟩=>(Ext w wr)∧(k≤m)∧(ii=(k:Int)-1)∧(nb 4294967296 (xs.drop (s+k))=nb 4294967296 (es.drop k))∧(Rd wr A n cap xs)∧(Rd wr D m cd es))
   (fun⟨wr,k,ii⟩=>k)
   (⟨w,m,_⟩:a7×Nat×Int) ⟨(Ext.refl w),aS _,rfl,aq,hx,hy⟩ G ⟨rfl,rfl,rfl,rfl,Fo⟩ ?_
  rintro⟨wr,k,ii⟩ ⟨L,hk,cn,p,M,I⟩
  refine cP [(0,AT A n cap),(1,AT D m cd),(2,v4 s),(8,v4 ii)] wr G ⟨rfl,rfl,rfl,rfl,Fo⟩ (aH (aH ?_))
  by_cases ck:0<k
  ·obtain⟨j,rfl⟩:∃j,k=j+1:=⟨k-1,by omega⟩
   obtain rfl:ii=(j:Int):=by omega
   refine aJ (mv 1 G (aN G G G true (qJ (a:=j) (b:=0) G G) (aA (bB G (b8 (aK (aH (bG (aH ?_)))))))))
   by_cases cg:xs.getD (s+j) 0≠es.getD j 0
   ·refine bH [(0,AT A n cap),(1,AT D m cd),(2,v4 s),(8,v4 j),(27,v4 j),(28,By)] ⟨rfl,rfl,rfl,rfl,rfl,rfl,Fo⟩ ?_
    obtain⟨U,p,bd⟩:∃v,v=wr.drew∧Ext wr v:=⟨_,rfl,aD.drew⟩
    have F:=L.trans bd
    obtain⟨E,Z,aa,_⟩:=((M.ext bd)).at (i:=s+j) (by omega)
    obtain⟨q,ae,ab,_⟩:=((I.ext bd)).at (i:=j) (by omega)
    refine gI bR (w:=U) [AT A n cap,v4 s,v4 j,v4 ((s+j:Nat):Int),.pointer (some E),AI ((xs.getD (s+j) 0:Nat):Int),AT D m cd,v4 j,.pointer (some q),AI ((es.getD j 0:Nat):Int),By] [U] [] [[],[],[],[1,2],[0,3],[4],[],[],[6,7],[8],[5,9]] [[],[],[],[1,2],[0,1,2,3],[0,1,2,3,4],[],[],[6,7],[6,7,8],[0,1,2,3,4,5,6,7,8,9]] [(0,0),(1,0),(2,0),(3,0),(4,0),(5,0),(6,0),(7,0),(8,0),(9,0),(10,0)] G p ?_ ?_
    ·refine aX _ G G G G G (cJ G) (aX _ G G G G G (cJ G) (aX _ G G G G G (cJ G) (aX _ G G G G G (kM G G ((s+j:Nat):Int) (bK (a:=s) (b:=j) G G)) (aX _ G G G G G (gN G G bT bL (s+j) G E Z) (aX _ G G G G G (cB G (dC d6 aa)) (aX _ G G G G G (cJ G) (aX _ G G G G G (cJ G) (aX _ G G G G G (gN G G bT bL j G q ae) (aX _ G G G G G (cB G (dC d6 ab)) (aX _ G G G G G (nE G G true (vA (a:=xs.getD (s+j) 0) (b:=es.getD j 0) G G)) ?_))))))))))
     exact gH
    clear p
    refine fU [(0,AT A n cap),(1,AT D m cd),(2,v4 s),(8,v4 j),(27,v4 j),(28,By),(31,AT A n cap),(32,v4 s),(33,v4 j),(34,v4 ((s+j:Nat):Int)),(35,.pointer (some E)),(36,AI ((xs.getD (s+j) 0:Nat):Int)),(37,AT D m cd),(38,v4 j),(39,.pointer (some q)),(40,AI ((es.getD j 0:Nat):Int)),(41,By)] ⟨rfl,rfl,rfl,rfl,rfl,rfl,rfl,rfl,rfl,rfl,rfl,rfl,rfl,rfl,rfl,rfl,rfl,Fo⟩ (aK (bB G (aH ?_)))
    by_cases ai:xs.getD (s+j) 0>es.getD j 0
    ·refine bH [(0,AT A n cap),(1,AT D m cd),(2,v4 s),(8,v4 j),(27,v4 j),(28,By),(31,AT A n cap),(32,v4 s),(33,v4 j),(34,v4 ((s+j:Nat):Int)),(35,.pointer (some E)),(36,AI ((xs.getD (s+j) 0:Nat):Int)),(37,AT D m cd),(38,v4 j),(39,.pointer (some q)),(40,AI ((es.getD j 0:Nat):Int)),(41,By)] ⟨rfl,rfl,rfl,rfl,rfl,rfl,rfl,rfl,rfl,rfl,rfl,rfl,rfl,rfl,rfl,rfl,rfl,Fo⟩ ?_
     obtain⟨bh,p,ar⟩:∃v,v=U.drew∧Ext U v:=⟨_,rfl,aD.drew⟩
     have H:=F.trans ar
     refine gI bR (w:=bh) [AT A n cap,v4 s,v4 j,v4 ((s+j:Nat):Int),.pointer (some E),AI ((xs.getD (s+j) 0:Nat):Int),AT D m cd,v4 j,.pointer (some q),AI ((es.getD j 0:Nat):Int),By,By] [bh] [] [[],[],[],[1,2],[0,3],[4],[],[],[6,7],[8],[5,9],[10]] [[],[],[],[1,2],[0,1,2,3],[0,1,2,3,4],[],[],[6,7],[6,7,8],[0,1,2,3,4,5,6,7,8,9],[0,1,2,3,4,5,6,7,8,9,10]] [(0,0),(1,0),(2,0),(3,0),(4,0),(5,0),(6,0),(7,0),(8,0),(9,0),(10,0),(11,0)] G p ?_ ?_
     ·refine aX _ G G G G G (cJ G) (aX _ G G G G G (cJ G) (aX _ G G G G G (cJ G) (aX _ G G G G G (kM G G ((s+j:Nat):Int) (bK (a:=s) (b:=j) G G)) (aX _ G G G G G (gN G G bT bL (s+j) G E Z) (aX _ G G G G G (cB G (dC d6 (ar.cell aa))) (aX _ G G G G G (cJ G) (aX _ G G G G G (cJ G) (aX _ G G G G G (gN G G bT bL j G q ae) (aX _ G G G G G (cB G (dC d6 (ar.cell ab))) (aX _ G G G G G (nE G G true (nT (a:=xs.getD (s+j) 0) (b:=es.getD j 0) G G)) (aX _ G G G G G (kL G) ?_)))))))))))
      exact gH
     clear p
     refine fU [(0,AT A n cap),(1,AT D m cd),(2,v4 s),(8,v4 j),(27,v4 j),(28,By),(31,AT A n cap),(32,v4 s),(33,v4 j),(34,v4 ((s+j:Nat):Int)),(35,.pointer (some E)),(36,AI ((xs.getD (s+j) 0:Nat):Int)),(37,AT D m cd),(38,v4 j),(39,.pointer (some q)),(40,AI ((es.getD j 0:Nat):Int)),(41,By),(42,AT A n cap),(43,v4 s),(44,v4 j),(45,v4 ((s+j:Nat):Int)),(46,.pointer (some E)),(47,AI ((xs.getD (s+j) 0:Nat):Int)),(48,AT D m cd),(49,v4 j),(50,.pointer (some q)),(51,AI ((es.getD j 0:Nat):Int)),(52,By),(6,By)] ⟨rfl,rfl,rfl,rfl,rfl,rfl,rfl,rfl,rfl,rfl,rfl,rfl,rfl,rfl,rfl,rfl,rfl,rfl,rfl,rfl,rfl,rfl,rfl,rfl,rfl,rfl,rfl,rfl,rfl,Fo⟩ (aK (bD (iB (cT (nQ (iB (cT (bC [By] G ⟨rfl,Fo⟩ ?_))))))))
     exact⟨_,rfl,(show Value.bool true=_ by rw [decide_eq_true (EO o f hs hwx hwe (by omega) p ai)]),H⟩
    ·refine bH [(0,AT A n cap),(1,AT D m cd),(2,v4 s),(8,v4 j),(27,v4 j),(28,By),(31,AT A n cap),(32,v4 s),(33,v4 j),(34,v4 ((s+j:Nat):Int)),(35,.pointer (some E)),(36,AI ((xs.getD (s+j) 0:Nat):Int)),(37,AT D m cd),(38,v4 j),(39,.pointer (some q)),(40,AI ((es.getD j 0:Nat):Int)),(41,By)] ⟨rfl,rfl,rfl,rfl,rfl,rfl,rfl,rfl,rfl,rfl,rfl,rfl,rfl,rfl,rfl,rfl,rfl,Fo⟩ ?_
     obtain⟨bm,p,au⟩:∃v,v=U.drew∧Ext U v:=⟨_,rfl,aD.drew⟩
     have H:=F.trans au
     refine gI bR (w:=bm) [AT A n cap,v4 s,v4 j,v4 ((s+j:Nat):Int),.pointer (some E),AI ((xs.getD (s+j) 0:Nat):Int),AT D m cd,v4 j,.pointer (some q),AI ((es.getD j 0:Nat):Int),F0,F0] [bm] [] [[],[],[],[1,2],[0,3],[4],[],[],[6,7],[8],[5,9],[10]] [[],[],[],[1,2],[0,1,2,3],[0,1,2,3,4],[],[],[6,7],[6,7,8],[0,1,2,3,4,5,6,7,8,9],[0,1,2,3,4,5,6,7,8,9,10]] [(0,0),(1,0),(2,0),(3,0),(4,0),(5,0),(6,0),(7,0),(8,0),(9,0),(10,0),(11,0)] G p ?_ ?_
     ·refine aX _ G G G G G (cJ G) (aX _ G G G G G (cJ G) (aX _ G G G G G (cJ G) (aX _ G G G G G (kM G G ((s+j:Nat):Int) (bK (a:=s) (b:=j) G G)) (aX _ G G G G G (gN G G bT bL (s+j) G E Z) (aX _ G G G G G (cB G (dC d6 (au.cell aa))) (aX _ G G G G G (cJ G) (aX _ G G G G G (cJ G) (aX _ G G G G G (gN G G bT bL j G q ae) (aX _ G G G G G (cB G (dC d6 (au.cell ab))) (aX _ G G G G G (nE G G false (nU (a:=xs.getD (s+j) 0) (b:=es.getD j 0) G G)) (aX _ G G G G G (kL G) ?_)))))))))))
      exact gH
     clear p
     refine fU [(0,AT A n cap),(1,AT D m cd),(2,v4 s),(8,v4 j),(27,v4 j),(28,By),(31,AT A n cap),(32,v4 s),(33,v4 j),(34,v4 ((s+j:Nat):Int)),(35,.pointer (some E)),(36,AI ((xs.getD (s+j) 0:Nat):Int)),(37,AT D m cd),(38,v4 j),(39,.pointer (some q)),(40,AI ((es.getD j 0:Nat):Int)),(41,By),(42,AT A n cap),(43,v4 s),(44,v4 j),(45,v4 ((s+j:Nat):Int)),(46,.pointer (some E)),(47,AI ((xs.getD (s+j) 0:Nat):Int)),(48,AT D m cd),(49,v4 j),(50,.pointer (some q)),(51,AI ((es.getD j 0:Nat):Int)),(52,BY),(6,BY)] ⟨rfl,rfl,rfl,rfl,rfl,rfl,rfl,rfl,rfl,rfl,rfl,rfl,rfl,rfl,rfl,rfl,rfl,rfl,rfl,rfl,rfl,rfl,rfl,rfl,rfl,rfl,rfl,rfl,rfl,Fo⟩ (aK (bD (iB (cT (nQ (iB (cT (bC [F0] G ⟨rfl,Fo⟩ ?_))))))))
     exact⟨_,rfl,(show Value.bool false=_ by rw [decide_eq_false (EN o f hs hwx hwe (by omega) p (by omega))]),H⟩
   ·refine bH [(0,AT A n cap),(1,AT D m cd),(2,v4 s),(8,v4 j),(27,v4 j),(28,By)] ⟨rfl,rfl,rfl,rfl,rfl,rfl,Fo⟩ ?_
    obtain⟨aw,p,Y⟩:∃v,v=wr.drew∧Ext wr v:=⟨_,rfl,aD.drew⟩
    have F:=L.trans Y
    obtain⟨ba,bo,bp,_⟩:=((M.ext Y)).at (i:=s+j) (by omega)
    obtain⟨ao,br,bt,_⟩:=((I.ext Y)).at (i:=j) (by omega)
    refine gI bR (w:=aw) [AT A n cap,v4 s,v4 j,v4 ((s+j:Nat):Int),.pointer (some ba),AI ((xs.getD (s+j) 0:Nat):Int),AT D m cd,v4 j,.pointer (some ao),AI ((es.getD j 0:Nat):Int),F0] [aw] [] [[],[],[],[1,2],[0,3],[4],[],[],[6,7],[8],[5,9]] [[],[],[],[1,2],[0,1,2,3],[0,1,2,3,4],[],[],[6,7],[6,7,8],[0,1,2,3,4,5,6,7,8,9]] [(0,0),(1,0),(2,0),(3,0),(4,0),(5,0),(6,0),(7,0),(8,0),(9,0),(10,0)] G p ?_ ?_
    ·refine aX _ G G G G G (cJ G) (aX _ G G G G G (cJ G) (aX _ G G G G G (cJ G) (aX _ G G G G G (kM G G ((s+j:Nat):Int) (bK (a:=s) (b:=j) G G)) (aX _ G G G G G (gN G G bT bL (s+j) G ba bo) (aX _ G G G G G (cB G (dC d6 bp)) (aX _ G G G G G (cJ G) (aX _ G G G G G (cJ G) (aX _ G G G G G (gN G G bT bL j G ao br) (aX _ G G G G G (cB G (dC d6 bt)) (aX _ G G G G G (nE G G false (iI (a:=xs.getD (s+j) 0) (b:=es.getD j 0) G G)) ?_))))))))))
     exact gH
    clear p
    refine fU [(0,AT A n cap),(1,AT D m cd),(2,v4 s),(8,v4 j),(27,v4 j),(28,By),(31,AT A n cap),(32,v4 s),(33,v4 j),(34,v4 ((s+j:Nat):Int)),(35,.pointer (some ba)),(36,AI ((xs.getD (s+j) 0:Nat):Int)),(37,AT D m cd),(38,v4 j),(39,.pointer (some ao)),(40,AI ((es.getD j 0:Nat):Int)),(41,BY)] ⟨rfl,rfl,rfl,rfl,rfl,rfl,rfl,rfl,rfl,rfl,rfl,rfl,rfl,rfl,rfl,rfl,rfl,Fo⟩ (aK (aV G (b8 (bM (aK (aJ (mv 1 G (aT G G G (((j:Nat):Int)-1) (kB G) (mv 1 G (aR (bX (⟨aw,j,_⟩:a7×Nat×Int) ⟨F,(by omega),rfl,EL o f hs hwx hwe (by omega) p (by omega),(M.ext Y),(I.ext Y)⟩ (show j<j+1 by omega) G ⟨rfl,rfl,rfl,rfl,Fo⟩)))))))))))
  ·obtain rfl:k=0:=by omega
   refine aJ (mv 1 G (aN G G G false (oN) (aA (aV G (cR (cK (cN (cO (aK (sr (mv 1 G (aA (bD ?_)))))))))))))
   refine bC [By] G ⟨rfl,Fo⟩ ?_
   exact⟨_,rfl,(show Value.bool true=_ by rw [decide_eq_true (EP o f hs hwx hwe p)]),L⟩
theorem DD (hi:i<l.length):l.getD i 0*b^i≤nb b l:=by
 rw [lO b l i,kA hi,cS,cM (l.getD i 0)]
 omega
theorem RN {x y r:Nat}(h:q*y+r=x)(hr:r<y):q=x/y∧r=x%y:=by
 subst h
 rw [cM]
 constructor
 ·rw [Nat.mul_add_div (by omega),gC hr];rfl
 ·rw [Nat.mul_add_mod,fM hr]
theorem xT (hb:0<b)(hm:0<m)(hl:es.length=m)(ht:es.getD (m-1) 0≠0):b^(m-1)≤nb b es:=by
 refine a6 ?_ (DD (b:=b) (l:=es) (i:=m-1) (by omega))
 exact Nat.le_mul_of_pos_left _ (by omega)
theorem ML (hb:0<b)(hm:0<m)(hl:es.length=m)(ht:es.getD (m-1) 0≠0):0<nb b es:=d4 (iO hb) (xT hb hm hl ht)
theorem KO (hw:Wfb 4294967296 xs)(hn:xs.length=n)(hl:es.length=m)(h:n<m)(ht:es.getD (m-1) 0≠0):nb 4294967296 xs<nb 4294967296 es:=by
 have f:=nI hw
 rw [hn] at f
 have p:=xT (b:=4294967296) (by decide) (by omega) hl ht
 have o:4294967296^n≤4294967296^(m-1):=i6 (by decide) (by omega)
 omega
theorem tW {s:Nat}{b:Bool}(hx:Rd w A n cap xs)(hy:Rd w D m cd es)(hwx:Wfb 4294967296 xs)(hwe:Wfb 4294967296 es)(hbig:nb 4294967296 xs<4294967296^(s+m+1))(hb:decide (nb 4294967296 es*4294967296^s≤nb 4294967296 xs)=b)(hln:n≤1099511627776:=by omega)(hs:s+m≤n:=by omega):aQ aM 119 #[AT A n cap,AT D m cd,v4 (s:Int)] w (Gv w (Is (.bool b))):=hb▸LN hx hln hy hwx hwe hs hbig
theorem MM {i':Nat}(h:i+1=i')(hi:i'<l.length):(l.getD i 0+l.getD i' 0*b)*b^i≤nb b l:=by
 subst h
 rw [lO b l i,kA (k:=i) (by omega),kA (k:=i+1) hi,cM,cM (l.getD (i+1) 0)]
 refine a6 (fG _ ?_) (Nat.le_add_left _ _)
 rw [cS]
 omega
theorem R9 (hw:Wfb 4294967296 l)(hk:k≤l.length)(h0:0<k)(hv:nb 4294967296 (l.take k)=nb 4294967296 l):nb 4294967296 l<(l.getD (k-1) 0+1)*4294967296^(k-1):=by
 obtain⟨j,rfl⟩:∃j,k=j+1:=⟨k-1,by omega⟩
 rw [←hv,gX 4294967296 l j (by omega),Nat.add_sub_cancel,dV,Nat.one_mul,cM (l.getD j 0)]
 have:=q6 hw j
 omega
theorem FQ {D hd t:Nat}(hD:D<hd*4294967296^(k-1))(hk:0<k)(ht:t*4294967296^(j+k-1)≤R):t/hd*D*4294967296^j≤R:=by
 have h:t/hd*D≤t/hd*(hd*4294967296^(k-1)):=fG _ (Nat.le_of_lt hD)
 have o:t/hd*(hd*4294967296^(k-1))≤t*4294967296^(k-1):=by
  rw [←bZ]
  exact eA _ (Nat.div_mul_le_self t hd)
 have f:=eA (4294967296^j) (a6 h o)
 rw [bZ t,←dU,show k-1+j=j+k-1 by omega] at f
 exact a6 f ht
theorem sH {D:Nat}(h:n*D*4294967296^j≤R)(hR:R<D*4294967296^(j+1)):n<4294967296:=by
 refine Nat.lt_of_not_le fun hn=>?_
 have f:4294967296*D*4294967296^j≤n*D*4294967296^j:=eA _ (eA _ hn)
 have o:4294967296*D*4294967296^j=D*4294967296^(j+1):=by rw [dJ];grind
 omega
structure DO (Z D k:Nat)(lq lr:List Nat):Prop where
 wq:Wfb 4294967296 lq
 wr:Wfb 4294967296 lr
 v:nb 4294967296 lq*D+nb 4294967296 lr=Z
 lt:nb 4294967296 lr<D*4294967296^k
 z:∀i,i<k→lq.getD i 0=0
structure DI (Z D j:Nat)(lq lr:List Nat):Prop where
 wq:Wfb 4294967296 lq
 wr:Wfb 4294967296 lr
 v:nb 4294967296 lq*D+nb 4294967296 lr=Z
 lt:lq.getD j 0*(D*4294967296^j)+nb 4294967296 lr<D*4294967296^(j+1)
 z:∀i,i<j→lq.getD i 0=0
theorem OO (k i:Nat):(dL k 0).getD i 0=0:=by
 rw [bE]
 by_cases h:i<k
 ·rw [List.getElem?_replicate_of_lt h];rfl
 ·rw [gM (by rw [List.length_replicate];omega)];rfl
theorem DO.start (hw:Wfb 4294967296 lr)(hr:nb 4294967296 lr=X*f)(hd:nb 4294967296 ld=Y*f)(hf:1≤f)(hX:X<4294967296^n)(hY:4294967296^(m-1)≤Y)(hm:0<m)(hmn:m≤n):DO (X*f) (nb 4294967296 ld) (n-m+1) (dL (n-m+1) 0) lr:=by
 refine⟨oY (by decide) _,hw,by rw [xR,hr];omega,?_,fun i _=>OO _ i⟩
 rw [hr,hd]
 have h:4294967296^n=4294967296^(m-1)*4294967296^(n-m+1):=by rw [←dU];congr 1;omega
 have o:4294967296^(m-1)*4294967296^(n-m+1)≤Y*4294967296^(n-m+1):=eA _ hY
 rw [pE]
 exact Nat.mul_lt_mul_of_pos_right (by omega) hf
theorem DO.enter {D:Nat}(h:DO Z D (j+1) lq lr):DI Z D j lq lr:=⟨h.wq,h.wr,h.v,by rw [h.z j (by omega),Nat.zero_mul,eX];exact h.lt,fun i hi=>h.z i (by omega)⟩
theorem DI.leave {D:Nat}(h:DI Z D j lq lr)(hn:¬D*4294967296^j≤nb 4294967296 lr):DO Z D j lq lr:=⟨h.wq,h.wr,h.v,by omega,h.z⟩
theorem DI.sum {D:Nat}(h:DI Z D j lq lr)(hv:nb 4294967296 l'+n*D*4294967296^j=nb 4294967296 lr):(lq.getD j 0+n)*(D*4294967296^j)+nb 4294967296 l'<D*4294967296^(j+1):=by
 have f:=h.lt
 rw [dV,←bZ n]
 omega
theorem DI.digit {D:Nat}(h:DI Z D j lq lr)(hv:nb 4294967296 l'+n*D*4294967296^j=nb 4294967296 lr):lq.getD j 0+n<4294967296:=by
 have f:=h.sum hv
 refine sH (R:=(lq.getD j 0+n)*D*4294967296^j) (aS _) ?_
 rw [bZ];omega
theorem DI.step {D:Nat}(h:DI Z D j lq lr)(hj:j<lq.length)(hw:Wfb 4294967296 l')(hv:nb 4294967296 l'+n*D*4294967296^j=nb 4294967296 lr):DI Z D j (lq.set j (lq.getD j 0+n)) l':=by
 refine⟨iM h.wq _ (hx:=(h.digit hv)),hw,?_,?_,fun i hi=>by rw [getD_set_ne (by omega),h.z i hi]⟩
 ·have f:=rT 4294967296 hj (lq.getD j 0+n)
  rw [cS] at f
  have p:nb 4294967296 (lq.set j (lq.getD j 0+n))=nb 4294967296 lq+4294967296^j*n:=by omega
  have q:=h.v
  have o:4294967296^j*n*D=n*D*4294967296^j:=by grind
  rw [p,dV,o]
  omega
 ·rw [qD hj];exact h.sum hv
theorem uR {D:Nat}(hn:1≤n)(hD:0<D)(hv:nb 4294967296 l'+n*D*4294967296^j=nb 4294967296 lr):nb 4294967296 l'<nb 4294967296 lr:=by
 have:0<n*D*4294967296^j:=lF (lF hn hD) (iO (by decide))
 omega
theorem uS {D:Nat}(h:DI Z D j lq lr)(hd:nb 4294967296 ld=D)(hw:Wfb 4294967296 ld)(hv:nb 4294967296 (ld.take k)=nb 4294967296 ld):nb 4294967296 lr<4294967296^(j+k+1):=by
 have f:=q6 hw k
 rw [hv,hd] at f
 have p:=h.lt
 have o:D*4294967296^(j+1)≤4294967296^k*4294967296^(j+1):=eA _ (Nat.le_of_lt f)
 rw [←dU,show k+(j+1)=j+k+1 by omega] at o
 omega
structure DF (f:Nat)(l0:List Nat)(k rest:Nat)(l:List Nat):Prop where
 len:l.length=l0.length
 wf:Wfb 4294967296 l
 rf:rest<f
 v:nb 4294967296 (l0.drop k)=nb 4294967296 (l.drop k)*f+rest
 same:∀i,i<k→l.getD i 0=l0.getD i 0
theorem DF.start (hw:Wfb 4294967296 l0)(hf:1≤f)(hl:l0.length=n):DF f l0 n 0 l0:=⟨rfl,hw,hf,by rw [List.drop_of_length_le (by omega),uB,Nat.zero_mul],fun _ _=>rfl⟩
theorem DF.step (h:DF f l0 (j+1) rest l)(hj:j<l0.length)(hd:(rest*4294967296+l.getD j 0)/f<4294967296)(hf:1≤f):DF f l0 j ((rest*4294967296+l.getD j 0)%f) (l.set j ((rest*4294967296+l.getD j 0)/f)):=by
 refine⟨by rw [List.length_set,h.len],iM h.wf _ (hx:=hd),gB _ hf,?_,fun i hi=>by rw [getD_set_ne (by omega),h.same i (by omega)]⟩
 rw [kA hj,kA (xs:=l.set j _) (k:=j) (by rw [List.length_set,h.len];exact hj),qD (by rw [h.len];exact hj),h.v,←h.same j (by omega),List.drop_set_of_lt (by omega)]
 have e:=Nat.div_add_mod (rest*4294967296+l.getD j 0) f
 generalize (rest*4294967296+l.getD j 0)/f=Q at*
 generalize (rest*4294967296+l.getD j 0)%f=R at*
 have o:(Q+4294967296*nb 4294967296 (List.drop (j+1) l))*f=f*Q+4294967296*(nb 4294967296 (List.drop (j+1) l)*f):=by grind
 rw [o]
 omega
theorem DF.digit (h:DF f l0 (j+1) rest l):(rest*4294967296+l.getD j 0)/f<4294967296:=by
 have p:=j8 (b:=4294967296) h.wf j
 have o:=h.rf
 rw [Nat.div_lt_iff_lt_mul (by omega)]
 have q:(rest+1)*4294967296≤f*4294967296:=eA _ o
 rw [cM 4294967296 f]
 omega
theorem RA (h:DO (X*f) (nb 4294967296 ld) 0 lq lr)(hd:nb 4294967296 ld=Y*f)(hF:DF f lr 0 rest l):nb 4294967296 lq=X/Y∧nb 4294967296 l=X%Y:=by
 have q:=h.v
 have p:=h.lt
 have o:=hF.v
 have H:=hF.rf
 rw [i9,i9] at o
 rw [hd,Nat.pow_zero,eG] at p
 rw [hd] at q
 have e:(nb 4294967296 lq*Y+nb 4294967296 l)*f+rest=X*f:=by rw [dV,bZ];omega
 have E:rest=0:=by
  have:=congrArg (· %f) e
  simp only [Nat.mul_mod_left,Nat.add_comm _ rest,Nat.add_mul_mod_self_right] at this
  rwa [fM H] at this
 rw [E,eI] at e o
 have D:=Nat.eq_of_mul_eq_mul_right (by omega:0<f) e
 have F:nb 4294967296 l<Y:=by
  rw [o] at p
  exact Nat.lt_of_mul_lt_mul_right p
 have:=RN (x:=X) (y:=Y) D F
 exact this
theorem LO (hx:Rd w A n cap xs)(hln:n≤274877906944)(hy:Rd w D m cd es)(hlm:m≤274877906944)(hwx:Wfb 4294967296 xs)(hwe:Wfb 4294967296 es)(hxt:n=0∨xs.getD (n-1) 0≠0)(hm0:0<m)(htop:es.getD (m-1) 0≠0):aQ aM 94 #[AT A n cap,AT D m cd] w (Gv w (T2 (WD (nb 4294967296 xs/nb 4294967296 es)) (WD (nb 4294967296 xs%nb 4294967296 es)))):=by
 have bf:=hx.len
 have jc:=hx.rv.le
 have bc:=hy.len
 have ir:=hy.rv.le
 refine bP Tryz.func94 G (n:=143) G (bq G) (args:= [AT A n cap,AT D m cd]) (bH [(0,AT A n cap),(1,AT D m cd)] ⟨rfl,rfl,Fo⟩ (sr (mv 2 G (aA (aH (aH ?_))))))
 by_cases gj:n<m
 ·refine aJ (mv 1 G (pu (v:= v4 n) G (mv 1 G (pu (v:= v4 m) G (aN G G G true (cG (a:=n) (b:=m) G G) (aA (bB G (sr (mv 3 G (aA (bD (cT (bC [S0,AT A n cap] G ⟨rfl,rfl,Fo⟩ ?_)))))))))))))
  have ez:=KO hwx bf bc gj htop
  refine⟨_,rfl,⟨_,_,rfl,⟨_,_,_,rfl,?_⟩,⟨_,_,_,rfl,?_⟩⟩,(Ext.refl w)⟩
  ·rw [gC ez];exact Rd.nil _
  ·rw [fM ez,G1 iS hwx (by rw [bf];exact hxt)];exact hx
 ·refine aJ (mv 1 G (pu (v:= v4 n) G (mv 1 G (pu (v:= v4 m) G (aN G G G false (cL (a:=n) (b:=m) G G) (aA (aV G (b8 (aK (aH ?_))))))))))
  have jp:=j8 (b:=4294967296) hwe (m-1)
  refine aJ (mv 1 G (aA (aH (bG ?_))))
  refine cQ (T:=a7×Nat)
   (fun⟨wr,f⟩=> [(0,AT A n cap),(1,AT D m cd),(6,AI f)])
   (fun⟨wr,f⟩=>wr)
   (fun⟨wr,f⟩=>(Ext w wr)∧(1≤f)∧(f≤4294967295)∧(Rd wr A n cap xs)∧(Rd wr D m cd es))
   (fun⟨wr,f⟩=>4294967296-f)
   (⟨w,1⟩:a7×Nat) ⟨(Ext.refl w),(by decide),(by decide),hx,hy⟩ G ⟨rfl,rfl,rfl,Fo⟩ ?_
  rintro⟨wr,f⟩ ⟨Y,br,fb,bi,ar⟩
  refine cP [(0,AT A n cap),(1,AT D m cd),(6,AI f)] wr G ⟨rfl,rfl,rfl,Fo⟩ (aH (aH ?_))
  have hm:(es.getD (m-1) 0)*f≤4294967295*4294967295:=kE (by omega) (by omega)
  by_cases iw:(es.getD (m-1) 0)*f<2147483648
  ·have jl:1*f≤(es.getD (m-1) 0)*f:=eA _ (by omega)
   refine aJ (mv 2 G (pu (v:= v4 m) G (aT G G G ((m-1:Nat):Int) (kC (a:=m) (b:=1) G G) ?_)))
   obtain⟨p1,gi,fi,_⟩:=(ar).at (i:=m-1) (by omega)
   refine bI G G G bT bL (m-1) G p1 gi (aP G G (dC d6 fi) (mv 1 G (aT G G G (((es.getD (m-1) 0)*f:Nat):Int) (mS (a:=es.getD (m-1) 0) (b:=f) G G) (aN G G G true (cG (a:=(es.getD (m-1) 0)*f) (b:=2147483648) G G) (aA (bB G (b8 (aK (bG (aJ (mv 1 G (aT G G G ((2*f:Nat):Int) (mS (a:=2) (b:=f) G G) (mv 1 G ?_)))))))))))))
   refine aR (bM (bX (⟨wr,2*f⟩:a7×Nat) ⟨Y,(by omega),(by omega),bi,ar⟩ (show 4294967296-2*f<4294967296-f by omega) G ⟨rfl,rfl,rfl,Fo⟩))
  ·refine aJ (mv 2 G (pu (v:= v4 m) G (aT G G G ((m-1:Nat):Int) (kC (a:=m) (b:=1) G G) ?_)))
   obtain⟨p2,ib,ig,_⟩:=(ar).at (i:=m-1) (by omega)
   refine bI G G G bT bL (m-1) G p2 ib (aP G G (dC d6 ig) (mv 1 G (aT G G G (((es.getD (m-1) 0)*f:Nat):Int) (mS (a:=es.getD (m-1) 0) (b:=f) G G) (aN G G G false (cL (a:=(es.getD (m-1) 0)*f) (b:=2147483648) G G) (aA (aV G (cR (cK (cN (cO (aK (sr (mv 1 G ?_)))))))))))))
   refine mv 1 G (cl (vs:= [AT A n cap,AI f]) Y (CH bi (by omega) hwx fb) G (by kernel_rfl) fun _ _ r5 e4 M=>?_)
   obtain⟨Z,_,rfl,io,da,il,ee,el⟩:=r5
   have bj:w.heap.size≤Z:=a6 Y.size io
   have jm:0<cap→∀a,A=some a→a.block≠Z:=fun hc a ha=>by have:=(bi).rv.blk a ha hc;omega
   have jk:0<cd→∀a,D=some a→a.block≠Z:=fun hc a ha=>by have:=(ar).rv.blk a ha hc;omega
   refine mv 1 G (aA (sr (mv 2 G (cl (vs:= [AT D m cd,AI f]) M (CH (ar.ext e4) (by omega) hwe fb) G (by kernel_rfl) fun _ _ ie bp ag=>?_))))
   obtain⟨E,o,rfl,ci,av,aa,p,cu⟩:=ie
   have iu:w.heap.size≤E:=a6 M.size ci
   have jb:Z<E:=d4 da.lt ci
   have iq:0<cap→∀a,A=some a→a.block≠E:=fun hc a ha=>by have:=((bi.ext e4)).rv.blk a ha hc;omega
   have ip:0<cd→∀a,D=some a→a.block≠E:=fun hc a ha=>by have:=((ar.ext e4)).rv.blk a ha hc;omega
   refine mv 1 G (aA (sr (mv 1 G (cl (vs:= [AT (some ⟨E,0,none⟩) (m+1) (m+1)]) ag (oE (av.rd0 p.wf aa (by omega))) G (by kernel_rfl) fun _ _ ia aq az=>?_))))
   obtain⟨h,rfl,_,_,fa⟩:=ia
   refine mv 1 G (aA (aH ?_))
   have hD:=cu
   have L:=fa 4294967296
   have fq:=ML (b:=4294967296) (by decide) (by omega) bc htop
   have cg:0<nb 4294967296 o:=by rw [hD];exact lF fq br
   have cn:0<h:=by refine Nat.pos_of_ne_zero fun e=>?_;rw [e] at L;simp only [List.take_zero,uB] at L;omega
   have ej:=R9 p (by omega) cn L
   have fh:=j8 (b:=4294967296) p (h-1)
   refine aJ (mv 1 G (pu (v:= v4 n) G (mv 1 G (pu (v:= v4 m) G (aT G G G ((n-m:Nat):Int) (kC (a:=n) (b:=m) G G) (aT G G G (((n-m)+1:Nat):Int) (bK (a:=n-m) (b:=1) G G) (mA G (k:=(n-m)+1) G G G bT iG G fun F fz au ch bv=>?_)))))))
   rw [jC] at ch
   have aw:w.heap.size≤F:=by rw [←au];exact az.size
   have jq:Z<F:=by rw [←au];exact (da.ext (bp.t aq)).lt
   have jr:E<F:=by rw [←au];exact (av.ext aq).lt
   have ix:0<cap→∀a,A=some a→a.block≠F:=fun hc a ha=>by have:=((bi.ext (e4.t (bp.t aq)))).rv.blk a ha hc;omega
   have iy:0<cd→∀a,D=some a→a.block≠F:=fun hc a ha=>by have:=((ar.ext (e4.t (bp.t aq)))).rv.blk a ha hc;omega
   clear au
   have gf:=az.trans bv
   refine mv 1 G (aA (sr (mv 2 G (pu (v:= v4 h) G (aT G G G ((h-1:Nat):Int) (kC (a:=h) (b:=1) G G) (bI G G G bT bL (h-1) G ⟨E,h-1,none⟩ (dN _ _) (aP G G (gY d6 (av.ext (aq.t bv)) (by rw [aa];omega)) (aT G G G (((o.getD (h-1) 0)+1:Nat):Int) (gS (a:=o.getD (h-1) 0) (b:=1) G G) (mv 1 G (aA (aH (sr (mv 1 G ?_)))))))))))))
   refine pu (v:= v4 n) G (mv 1 G (pu (v:= v4 m) G (aT G G G ((n-m:Nat):Int) (kC (a:=n) (b:=m) G G) (mv 1 G (aA (bG ?_))))))
   refine cQ (T:=a7×Nat×Int×List Nat×List Nat)
    (fun⟨wr,k,ii,lq,lr⟩=> [(6,AI f),(7,AT (some ⟨Z,0,none⟩) (n+1) (n+1)),(8,AT (some ⟨E,0,none⟩) h (m+1)),(9,AT (some ⟨F,0,none⟩) ((n-m)+1) ((n-m)+1)),(10,AI (((o.getD (h-1) 0)+1:Nat):Int)),(11,v4 ii)])
    (fun⟨wr,k,ii,lq,lr⟩=>wr)
    (fun⟨wr,k,ii,lq,lr⟩=>(Ext w wr)∧(k≤n-m+1)∧(ii=(k:Int)-1)∧(Bk wr Z 36 (lr.map aY))∧(lr.length=n+1)∧(Bk wr E 36 (o.map aY))∧(Bk wr F 36 (lq.map aY))∧(lq.length=n-m+1)∧(DO (nb 4294967296 xs*f) (nb 4294967296 o) k lq lr))
    (fun⟨wr,k,ii,lq,lr⟩=>k)
    (⟨fz,n-m+1,_,_,_⟩:a7×Nat×Int×List Nat×List Nat) ⟨gf,aS _,(by omega),(da.ext (bp.t (aq.t bv))),il,(av.ext (aq.t bv)),ch,(List.length_replicate (n:=(n-m)+1) (a:=0)),DO.start ee el hD br (by have:=nI hwx;rwa [bf] at this) (xT (by decide) (by omega) bc htop) (by omega) (by omega)⟩ G ⟨rfl,rfl,rfl,rfl,rfl,rfl,Fo⟩ ?_
   rintro⟨wr,k,ii,lq,lr⟩ ⟨Y,hk,ge,H,W,X,V,U,hO⟩
   refine cP [(6,AI f),(7,AT (some ⟨Z,0,none⟩) (n+1) (n+1)),(8,AT (some ⟨E,0,none⟩) h (m+1)),(9,AT (some ⟨F,0,none⟩) ((n-m)+1) ((n-m)+1)),(10,AI (((o.getD (h-1) 0)+1:Nat):Int)),(11,v4 ii)] wr G ⟨rfl,rfl,rfl,rfl,rfl,rfl,Fo⟩ (aH (aH ?_))
   by_cases fo:0<k
   ·obtain⟨j,rfl⟩:∃j,k=j+1:=⟨k-1,by omega⟩
    obtain rfl:ii=(j:Int):=by omega
    refine aJ (mv 1 G (aN G G G true (qJ (a:=j) (b:=0) G G) (aA (bB G (b8 (aK (aH (bG (bG ?_)))))))))
    have hE:=hO.enter
    clear hO
    refine cQ (T:=a7×List Nat×List Nat)
     (fun⟨wr,lq,lr⟩=> [(6,AI f),(7,AT (some ⟨Z,0,none⟩) (n+1) (n+1)),(8,AT (some ⟨E,0,none⟩) h (m+1)),(9,AT (some ⟨F,0,none⟩) ((n-m)+1) ((n-m)+1)),(10,AI (((o.getD (h-1) 0)+1:Nat):Int)),(11,v4 j)])
     (fun⟨wr,lq,lr⟩=>wr)
     (fun⟨wr,lq,lr⟩=>(Ext w wr)∧(Bk wr Z 36 (lr.map aY))∧(lr.length=n+1)∧(Bk wr E 36 (o.map aY))∧(Bk wr F 36 (lq.map aY))∧(lq.length=n-m+1)∧(DI (nb 4294967296 xs*f) (nb 4294967296 o) j lq lr))
     (fun⟨wr,lq,lr⟩=>nb 4294967296 lr)
     (⟨wr,_,_⟩:a7×List Nat×List Nat) ⟨Y,H,W,X,V,U,hE⟩ G ⟨rfl,rfl,rfl,rfl,rfl,rfl,Fo⟩ ?_
    rintro⟨wr,lq,lr⟩ ⟨Y,H,W,X,V,U,hI⟩
    refine cP [(6,AI f),(7,AT (some ⟨Z,0,none⟩) (n+1) (n+1)),(8,AT (some ⟨E,0,none⟩) h (m+1)),(9,AT (some ⟨F,0,none⟩) ((n-m)+1) ((n-m)+1)),(10,AI (((o.getD (h-1) 0)+1:Nat):Int)),(11,v4 j)] wr G ⟨rfl,rfl,rfl,rfl,rfl,rfl,Fo⟩ (bG (aH ?_))
    have ab:=hI.wr
    have fv:=j8 (b:=4294967296) ab ((j+h)-1)
    have jh:=j8 (b:=4294967296) ab (j+h)
    by_cases ja:j+h<n+1
    ·have hT:=MM (b:=4294967296) (l:=lr) (i:=(j+h)-1) (i':=j+h) (by omega) (by omega)
     refine aJ (mv 3 G (pu (v:= v4 h) G (aT G G G ((j+h:Nat):Int) (bK (a:=j) (b:=h) G G) (aT G G G (((j+h)-1:Nat):Int) (kC (a:=j+h) (b:=1) G G) (bI G G G bT bL ((j+h)-1) G ⟨Z,(j+h)-1,none⟩ (dN _ _) (aP G G (gY d6 H (by rw [W];omega)) (mv 1 G (aA (aH (sr (mv 2 G (pu (v:= v4 h) G (aT G G G ((j+h:Nat):Int) (bK (a:=j) (b:=h) G G) ?_)))))))))))))
     refine mv 1 G (pu (v:= v4 (((n+1):Nat):Int)) G (aN G G G true (cG (a:=j+h) (b:=n+1) G G) (aA (bB G (aJ (mv 4 G (pu (v:= v4 h) G (aT G G G ((j+h:Nat):Int) (bK (a:=j) (b:=h) G G) (bI G G G bT bL (j+h) G ⟨Z,j+h,none⟩ (dN _ _) (aP G G (gY d6 H (by rw [W];omega)) (aT G G G (((lr.getD (j+h) 0)*4294967296:Nat):Int) (mS (a:=lr.getD (j+h) 0) (b:=4294967296) G G) (aT G G G (((lr.getD ((j+h)-1) 0)+((lr.getD (j+h) 0)*4294967296):Nat):Int) (gS (a:=lr.getD ((j+h)-1) 0) (b:=(lr.getD (j+h) 0)*4294967296) G G) (mv 1 G ?_)))))))))))))
     refine aA (aH ?_)
     have ak:=FQ ej cn hT
     have ao:nb 4294967296 lr<nb 4294967296 o*4294967296^(j+1):=lG (Nat.le_add_left _ _) hI.lt
     by_cases ct:((lr.getD ((j+h)-1) 0)+((lr.getD (j+h) 0)*4294967296))/((o.getD (h-1) 0)+1)=0
     ·by_cases aj:nb 4294967296 o*4294967296^j≤nb 4294967296 lr
      ·have an:1*nb 4294967296 o*4294967296^j≤nb 4294967296 lr:=by rw [Nat.one_mul];exact aj
       refine aJ (mv 2 G (aT G G G ((((lr.getD ((j+h)-1) 0)+((lr.getD (j+h) 0)*4294967296))/((o.getD (h-1) 0)+1):Nat):Int) (j6 (a:=(lr.getD ((j+h)-1) 0)+((lr.getD (j+h) 0)*4294967296)) (b:=(o.getD (h-1) 0)+1) G G) (mv 1 G (aA (aH (sr (mv 1 G (aN G G G true (mR (a:=((lr.getD ((j+h)-1) 0)+((lr.getD (j+h) 0)*4294967296))/((o.getD (h-1) 0)+1)) (b:=0) G G) (aA (bB G (sr (mv 3 G (cl (vs:= [AT (some ⟨Z,0,none⟩) (n+1) (n+1),AT (some ⟨E,0,none⟩) h (m+1),v4 j]) Y (tW (b:=true) (H.rd0 ab.wf W (by omega)) ((X.rd0 p.wf aa (by omega)).take (k:=h) (by omega) (by omega) (aS _)) ab (jM p _) (uS hI G p L) (by rw [L,decide_eq_true aj])) G (by kernel_rfl) fun _ _ ft bh M=>?_)))))))))))))
       obtain rfl:=ft
       refine mv 1 G (aA (aH (sr (mv 1 G (pu (v:= BY) G (aA (aV G (b8 (aK (aJ (mv 1 G (aA (aH ?_)))))))))))))
       refine aJ (mv 4 G ?_)
       have ae:=sH an ao
       refine eL G G (vs:= [AT (some ⟨Z,0,none⟩) (n+1) (n+1),AT (some ⟨E,0,none⟩) h (m+1),AI 1,v4 j]) (by kernel_rfl) (by decide) (tT (q:=1) (s:=j) (H.ext bh) W ab (((X.ext bh).rd0 p.wf aa (by omega)).take (k:=h) (by omega) (by omega) (aS _)) (jM p _) (fun _ a ha=>by cases ha;show E≠Z;omega) ae (by rw [L];exact an)) ?_
       rintro _ _ ⟨rfl,bz,l3,dl,fd,ah,I⟩
       rw [L] at I
       refine eM ?_
       have cv:=hI.digit I
       have ag:=bz.ext M bj
       refine aA (aJ (mv 4 G (bI G G G bT bL j G ⟨F,j,none⟩ (dN _ _) (aP G G (gY d6 ((V.ext bh).vN bz) (by rw [U];omega)) (mv 1 G (aT G G G (((lq.getD j 0)+1:Nat):Int) (gS (a:=lq.getD j 0) (b:=1) G G) (bI G G G bT bL j G ⟨F,j,none⟩ (dN _ _) ?_)))))))
       have eh:=((V.ext bh).vN bz)
       refine eJ G G G bL G eh (gQ (by rw [U];omega)) G ((lq.set j ((lq.getD j 0)+1)).map aY) (dO _ _ _) fun gb df cy _=>?_
       have az:=cy.ext ag aw
       refine aR (bM (bX (⟨gb,_,_⟩:a7×List Nat×List Nat) ⟨az,(dl.vN cy),fd,(((X.ext bh).vN bz).vN cy),df,(iF (l:=lq) (U)),hI.step (by omega) ah I⟩ (uR (aS 1) cg I) G ⟨rfl,rfl,rfl,rfl,rfl,rfl,Fo⟩))
      ·refine aJ (mv 2 G (aT G G G ((((lr.getD ((j+h)-1) 0)+((lr.getD (j+h) 0)*4294967296))/((o.getD (h-1) 0)+1):Nat):Int) (j6 (a:=(lr.getD ((j+h)-1) 0)+((lr.getD (j+h) 0)*4294967296)) (b:=(o.getD (h-1) 0)+1) G G) (mv 1 G (aA (aH (sr (mv 1 G (aN G G G true (mR (a:=((lr.getD ((j+h)-1) 0)+((lr.getD (j+h) 0)*4294967296))/((o.getD (h-1) 0)+1)) (b:=0) G G) (aA (bB G (sr (mv 3 G (cl (vs:= [AT (some ⟨Z,0,none⟩) (n+1) (n+1),AT (some ⟨E,0,none⟩) h (m+1),v4 j]) Y (tW (b:=false) (H.rd0 ab.wf W (by omega)) ((X.rd0 p.wf aa (by omega)).take (k:=h) (by omega) (by omega) (aS _)) ab (jM p _) (uS hI G p L) (by rw [L,decide_eq_false aj])) G (by kernel_rfl) fun _ gx ga cj M=>?_)))))))))))))
       obtain rfl:=ga
       refine mv 1 G (aA (aH (sr (mv 1 G (pu (v:= By) G (aA (bB G (cR (cK (cK (FL (by decide) (cN (cO ?_)))))))))))))
       refine bM (aK (aJ (mv 1 G (aT G G G (((j:Nat):Int)-1) (kB G) (mv 1 G (aR (bX (⟨gx,j,_,_,_⟩:a7×Nat×Int×List Nat×List Nat) ⟨M,(by omega),(by omega),(H.ext cj),W,(X.ext cj),(V.ext cj),U,hI.leave aj⟩ (show j<j+1 by omega) G ⟨rfl,rfl,rfl,rfl,rfl,rfl,Fo⟩)))))))
     ·refine aJ (mv 2 G (aT G G G ((((lr.getD ((j+h)-1) 0)+((lr.getD (j+h) 0)*4294967296))/((o.getD (h-1) 0)+1):Nat):Int) (j6 (a:=(lr.getD ((j+h)-1) 0)+((lr.getD (j+h) 0)*4294967296)) (b:=(o.getD (h-1) 0)+1) G G) (mv 1 G (aA (aH (sr (mv 1 G (aN G G G false (nV (a:=((lr.getD ((j+h)-1) 0)+((lr.getD (j+h) 0)*4294967296))/((o.getD (h-1) 0)+1)) (b:=0) G G) (aA (aV G (b8 (aK (aH ?_)))))))))))))
      refine aJ (mv 4 G ?_)
      have ae:=sH ak ao
      refine eL G G (vs:= [AT (some ⟨Z,0,none⟩) (n+1) (n+1),AT (some ⟨E,0,none⟩) h (m+1),AI ((((lr.getD ((j+h)-1) 0)+((lr.getD (j+h) 0)*4294967296))/((o.getD (h-1) 0)+1):Nat):Int),v4 j]) (by kernel_rfl) (by decide) (tT (q:=((lr.getD ((j+h)-1) 0)+((lr.getD (j+h) 0)*4294967296))/((o.getD (h-1) 0)+1)) (s:=j) H W ab ((X.rd0 p.wf aa (by omega)).take (k:=h) (by omega) (by omega) (aS _)) (jM p _) (fun _ a ha=>by cases ha;show E≠Z;omega) ae (by rw [L];exact ak)) ?_
      rintro _ _ ⟨rfl,bu,l3,fe,fc,ah,I⟩
      rw [L] at I
      refine eM ?_
      have cv:=hI.digit I
      have M:=bu.ext Y bj
      refine aA (aJ (mv 4 G (bI G G G bT bL j G ⟨F,j,none⟩ (dN _ _) (aP G G (gY d6 (V.vN bu) (by rw [U];omega)) (mv 1 G (aT G G G (((lq.getD j 0)+(((lr.getD ((j+h)-1) 0)+((lr.getD (j+h) 0)*4294967296))/((o.getD (h-1) 0)+1)):Nat):Int) (gS (a:=lq.getD j 0) (b:=((lr.getD ((j+h)-1) 0)+((lr.getD (j+h) 0)*4294967296))/((o.getD (h-1) 0)+1)) G G) (bI G G G bT bL j G ⟨F,j,none⟩ (dN _ _) ?_)))))))
      have dt:=(V.vN bu)
      refine eJ G G G bL G dt (gQ (by rw [U];omega)) G ((lq.set j ((lq.getD j 0)+(((lr.getD ((j+h)-1) 0)+((lr.getD (j+h) 0)*4294967296))/((o.getD (h-1) 0)+1)))).map aY) (dO _ _ _) fun fw de cz _=>?_
      have ag:=cz.ext M aw
      refine aR (bM (bX (⟨fw,_,_⟩:a7×List Nat×List Nat) ⟨ag,(fe.vN cz),fc,((X.vN bu).vN cz),de,(iF (l:=lq) (U)),hI.step (by omega) ah I⟩ (uR (Nat.pos_of_ne_zero ct) cg I) G ⟨rfl,rfl,rfl,rfl,rfl,rfl,Fo⟩))
    ·have hT:=DD (b:=4294967296) (l:=lr) (i:=(j+h)-1) (by omega)
     refine aJ (mv 3 G (pu (v:= v4 h) G (aT G G G ((j+h:Nat):Int) (bK (a:=j) (b:=h) G G) (aT G G G (((j+h)-1:Nat):Int) (kC (a:=j+h) (b:=1) G G) (bI G G G bT bL ((j+h)-1) G ⟨Z,(j+h)-1,none⟩ (dN _ _) (aP G G (gY d6 H (by rw [W];omega)) (mv 1 G (aA (aH (sr (mv 2 G (pu (v:= v4 h) G (aT G G G ((j+h:Nat):Int) (bK (a:=j) (b:=h) G G) ?_)))))))))))))
     refine mv 1 G (pu (v:= v4 (((n+1):Nat):Int)) G (aN G G G false (cL (a:=j+h) (b:=n+1) G G) (aA (aV G (b8 (aK (aH ?_)))))))
     have ak:=FQ ej cn hT
     have ao:nb 4294967296 lr<nb 4294967296 o*4294967296^(j+1):=lG (Nat.le_add_left _ _) hI.lt
     by_cases ct:(lr.getD ((j+h)-1) 0)/((o.getD (h-1) 0)+1)=0
     ·by_cases aj:nb 4294967296 o*4294967296^j≤nb 4294967296 lr
      ·have an:1*nb 4294967296 o*4294967296^j≤nb 4294967296 lr:=by rw [Nat.one_mul];exact aj
       refine aJ (mv 2 G (aT G G G (((lr.getD ((j+h)-1) 0)/((o.getD (h-1) 0)+1):Nat):Int) (j6 (a:=lr.getD ((j+h)-1) 0) (b:=(o.getD (h-1) 0)+1) G G) (mv 1 G (aA (aH (sr (mv 1 G (aN G G G true (mR (a:=(lr.getD ((j+h)-1) 0)/((o.getD (h-1) 0)+1)) (b:=0) G G) (aA (bB G (sr (mv 3 G (cl (vs:= [AT (some ⟨Z,0,none⟩) (n+1) (n+1),AT (some ⟨E,0,none⟩) h (m+1),v4 j]) Y (tW (b:=true) (H.rd0 ab.wf W (by omega)) ((X.rd0 p.wf aa (by omega)).take (k:=h) (by omega) (by omega) (aS _)) ab (jM p _) (uS hI G p L) (by rw [L,decide_eq_true aj])) G (by kernel_rfl) fun _ _ ik bg M=>?_)))))))))))))
       obtain rfl:=ik
       refine mv 1 G (aA (aH (sr (mv 1 G (pu (v:= BY) G (aA (aV G (b8 (aK (aJ (mv 1 G (aA (aH ?_)))))))))))))
       refine aJ (mv 4 G ?_)
       have ae:=sH an ao
       refine eL G G (vs:= [AT (some ⟨Z,0,none⟩) (n+1) (n+1),AT (some ⟨E,0,none⟩) h (m+1),AI 1,v4 j]) (by kernel_rfl) (by decide) (tT (q:=1) (s:=j) (H.ext bg) W ab (((X.ext bg).rd0 p.wf aa (by omega)).take (k:=h) (by omega) (by omega) (aS _)) (jM p _) (fun _ a ha=>by cases ha;show E≠Z;omega) ae (by rw [L];exact an)) ?_
       rintro _ _ ⟨rfl,bt,l3,ep,dz,ah,I⟩
       rw [L] at I
       refine eM ?_
       have cv:=hI.digit I
       have ag:=bt.ext M bj
       refine aA (aJ (mv 4 G (bI G G G bT bL j G ⟨F,j,none⟩ (dN _ _) (aP G G (gY d6 ((V.ext bg).vN bt) (by rw [U];omega)) (mv 1 G (aT G G G (((lq.getD j 0)+1:Nat):Int) (gS (a:=lq.getD j 0) (b:=1) G G) (bI G G G bT bL j G ⟨F,j,none⟩ (dN _ _) ?_)))))))
       have ey:=((V.ext bg).vN bt)
       refine eJ G G G bL G ey (gQ (by rw [U];omega)) G ((lq.set j ((lq.getD j 0)+1)).map aY) (dO _ _ _) fun gg dy co _=>?_
       have az:=co.ext ag aw
       refine aR (bM (bX (⟨gg,_,_⟩:a7×List Nat×List Nat) ⟨az,(ep.vN co),dz,(((X.ext bg).vN bt).vN co),dy,(iF (l:=lq) (U)),hI.step (by omega) ah I⟩ (uR (aS 1) cg I) G ⟨rfl,rfl,rfl,rfl,rfl,rfl,Fo⟩))
      ·refine aJ (mv 2 G (aT G G G (((lr.getD ((j+h)-1) 0)/((o.getD (h-1) 0)+1):Nat):Int) (j6 (a:=lr.getD ((j+h)-1) 0) (b:=(o.getD (h-1) 0)+1) G G) (mv 1 G (aA (aH (sr (mv 1 G (aN G G G true (mR (a:=(lr.getD ((j+h)-1) 0)/((o.getD (h-1) 0)+1)) (b:=0) G G) (aA (bB G (sr (mv 3 G (cl (vs:= [AT (some ⟨Z,0,none⟩) (n+1) (n+1),AT (some ⟨E,0,none⟩) h (m+1),v4 j]) Y (tW (b:=false) (H.rd0 ab.wf W (by omega)) ((X.rd0 p.wf aa (by omega)).take (k:=h) (by omega) (by omega) (aS _)) ab (jM p _) (uS hI G p L) (by rw [L,decide_eq_false aj])) G (by kernel_rfl) fun _ fj gt cm M=>?_)))))))))))))
       obtain rfl:=gt
       refine mv 1 G (aA (aH (sr (mv 1 G (pu (v:= By) G (aA (bB G (cR (cK (cK (FL (by decide) (cN (cO ?_)))))))))))))
       refine bM (aK (aJ (mv 1 G (aT G G G (((j:Nat):Int)-1) (kB G) (mv 1 G (aR (bX (⟨fj,j,_,_,_⟩:a7×Nat×Int×List Nat×List Nat) ⟨M,(by omega),(by omega),(H.ext cm),W,(X.ext cm),(V.ext cm),U,hI.leave aj⟩ (show j<j+1 by omega) G ⟨rfl,rfl,rfl,rfl,rfl,rfl,Fo⟩)))))))
     ·refine aJ (mv 2 G (aT G G G (((lr.getD ((j+h)-1) 0)/((o.getD (h-1) 0)+1):Nat):Int) (j6 (a:=lr.getD ((j+h)-1) 0) (b:=(o.getD (h-1) 0)+1) G G) (mv 1 G (aA (aH (sr (mv 1 G (aN G G G false (nV (a:=(lr.getD ((j+h)-1) 0)/((o.getD (h-1) 0)+1)) (b:=0) G G) (aA (aV G (b8 (aK (aH ?_)))))))))))))
      refine aJ (mv 4 G ?_)
      have ae:=sH ak ao
      refine eL G G (vs:= [AT (some ⟨Z,0,none⟩) (n+1) (n+1),AT (some ⟨E,0,none⟩) h (m+1),AI (((lr.getD ((j+h)-1) 0)/((o.getD (h-1) 0)+1):Nat):Int),v4 j]) (by kernel_rfl) (by decide) (tT (q:=(lr.getD ((j+h)-1) 0)/((o.getD (h-1) 0)+1)) (s:=j) H W ab ((X.rd0 p.wf aa (by omega)).take (k:=h) (by omega) (by omega) (aS _)) (jM p _) (fun _ a ha=>by cases ha;show E≠Z;omega) ae (by rw [L];exact ak)) ?_
      rintro _ _ ⟨rfl,bm,l3,dr,du,ah,I⟩
      rw [L] at I
      refine eM ?_
      have cv:=hI.digit I
      have M:=bm.ext Y bj
      refine aA (aJ (mv 4 G (bI G G G bT bL j G ⟨F,j,none⟩ (dN _ _) (aP G G (gY d6 (V.vN bm) (by rw [U];omega)) (mv 1 G (aT G G G (((lq.getD j 0)+((lr.getD ((j+h)-1) 0)/((o.getD (h-1) 0)+1)):Nat):Int) (gS (a:=lq.getD j 0) (b:=(lr.getD ((j+h)-1) 0)/((o.getD (h-1) 0)+1)) G G) (bI G G G bT bL j G ⟨F,j,none⟩ (dN _ _) ?_)))))))
      have dd:=(V.vN bm)
      refine eJ G G G bL G dd (gQ (by rw [U];omega)) G ((lq.set j ((lq.getD j 0)+((lr.getD ((j+h)-1) 0)/((o.getD (h-1) 0)+1)))).map aY) (dO _ _ _) fun fx fg cp _=>?_
      have ag:=cp.ext M aw
      refine aR (bM (bX (⟨fx,_,_⟩:a7×List Nat×List Nat) ⟨ag,(dr.vN cp),du,((X.vN bm).vN cp),fg,(iF (l:=lq) (U)),hI.step (by omega) ah I⟩ (uR (Nat.pos_of_ne_zero ct) cg I) G ⟨rfl,rfl,rfl,rfl,rfl,rfl,Fo⟩))
   ·obtain rfl:k=0:=by omega
    refine aJ (mv 1 G (aN G G G false (oN) (aA (aV G (cR (cK (cN (cO (aK (sr (mv 1 G (aA (aH ?_)))))))))))))
    refine sr (mv 1 G (pu (v:= v4 (((n+1):Nat):Int)) G (aT G G G (((n+1)-1:Nat):Int) (kC (a:=n+1) (b:=1) G G) (mv 1 G (aA (bG ?_))))))
    refine cQ (T:=a7×Nat×Int×Nat×List Nat)
     (fun⟨wr,k,ii,rest,l⟩=> [(6,AI f),(7,AT (some ⟨Z,0,none⟩) (n+1) (n+1)),(9,AT (some ⟨F,0,none⟩) ((n-m)+1) ((n-m)+1)),(15,AI rest),(16,v4 ii)])
     (fun⟨wr,k,ii,rest,l⟩=>wr)
     (fun⟨wr,k,ii,rest,l⟩=>(Ext w wr)∧(k≤n+1)∧(ii=(k:Int)-1)∧(Bk wr Z 36 (l.map aY))∧(Bk wr F 36 (lq.map aY))∧(DF f lr k rest l))
     (fun⟨wr,k,ii,rest,l⟩=>k)
     (⟨wr,n+1,_,0,lr⟩:a7×Nat×Int×Nat×List Nat) ⟨Y,aS _,(by omega),H,V,DF.start hO.wr br W⟩ G ⟨rfl,rfl,rfl,rfl,rfl,Fo⟩ ?_
    rintro⟨wr,k,ii,rest,l⟩ ⟨Y,hk,ge,H,V,hF⟩
    refine cP [(6,AI f),(7,AT (some ⟨Z,0,none⟩) (n+1) (n+1)),(9,AT (some ⟨F,0,none⟩) ((n-m)+1) ((n-m)+1)),(15,AI rest),(16,v4 ii)] wr G ⟨rfl,rfl,rfl,rfl,rfl,Fo⟩ ?_
    have ba:=hF.len
    rw [W] at ba
    refine aH (aH ?_)
    by_cases fo:0<k
    ·obtain⟨j,rfl⟩:∃j,k=j+1:=⟨k-1,by omega⟩
     obtain rfl:ii=(j:Int):=by omega
     refine aJ (mv 1 G (aN G G G true (qJ (a:=j) (b:=0) G G) (aA (bB G (b8 (aK (aH (bG (aH ?_)))))))))
     have dm:=hF.digit
     have fv:=j8 (b:=4294967296) hF.wf j
     have jo:=hF.rf
     refine aJ (mv 1 G (aT G G G ((rest*4294967296:Nat):Int) (mS (a:=rest) (b:=4294967296) G G) (mv 2 G (bI G G G bT bL j G ⟨Z,j,none⟩ (dN _ _) (aP G G (gY d6 H (by rw [ba];omega)) (aT G G G (((rest*4294967296)+(l.getD j 0):Nat):Int) (gS (a:=rest*4294967296) (b:=l.getD j 0) G G) (mv 1 G (aA (sr (mv 4 G (aT G G G ((((rest*4294967296)+(l.getD j 0))/f:Nat):Int) (j6 (a:=(rest*4294967296)+(l.getD j 0)) (b:=f) G G) (bI G G G bT bL j G ⟨Z,j,none⟩ (dN _ _) ?_))))))))))))
     have dh:=H
     refine eJ G G G bL G dh (gQ (by rw [ba];omega)) G ((l.set j (((rest*4294967296)+(l.getD j 0))/f)).map aY) (dO _ _ _) fun fk eg dw _=>?_
     have M:=dw.ext Y bj
     refine aA (aJ (mv 2 G (aT G G G ((((rest*4294967296)+(l.getD j 0))%f:Nat):Int) (jL (a:=(rest*4294967296)+(l.getD j 0)) (b:=f) G G) (mv 1 G (aR (bM (aK (aJ (mv 1 G (aT G G G (((j:Nat):Int)-1) (kB G) (mv 1 G (aR (bX (⟨fk,j,_,_,_⟩:a7×Nat×Int×Nat×List Nat) ⟨M,(by omega),rfl,eg,(V.vN dw),hF.step (by omega) dm br⟩ (show j<j+1 by omega) G ⟨rfl,rfl,rfl,rfl,rfl,Fo⟩)))))))))))))
    ·obtain rfl:k=0:=by omega
     refine aJ (mv 1 G (aN G G G false (oN) (aA (aV G (cR (cK (cN (cO (aK (sr (mv 1 G (cl (vs:= [AT (some ⟨F,0,none⟩) ((n-m)+1) ((n-m)+1)]) Y (oE (V.rd0 hO.wq.wf U (by omega))) G (by kernel_rfl) fun _ _ ij cx M=>?_))))))))))))
     obtain⟨gy,rfl,dx,ei,dv⟩:=ij
     refine mv 1 G (cl (vs:= [AT (some ⟨Z,0,none⟩) (n+1) (n+1)]) M (oE ((H.ext cx).rd0 hF.wf.wf ba (by omega))) G (by kernel_rfl) fun _ _ go dc ag=>?_)
     obtain⟨fp,rfl,dn,dg,ef⟩:=go
     refine mv 2 G (aA (bD (bC [AT (some ⟨F,0,none⟩) gy ((n-m)+1),AT (some ⟨Z,0,none⟩) fp (n+1)] G ⟨rfl,rfl,Fo⟩ ?_)))
     obtain⟨e1,e2⟩:=RA hO hD hF
     refine⟨_,rfl,⟨_,_,rfl,⟨_,_,_,rfl,?_⟩,⟨_,_,_,rfl,?_⟩⟩,ag⟩
     ·rw [←e1];exact ((V.ext (cx.t dc)).rd0 hO.wq.wf U (by omega)).trim hO.wq dx ei dv
     ·rw [←e2];exact ((H.ext (cx.t dc)).rd0 hF.wf.wf ba (by omega)).trim hF.wf dn dg ef
theorem xG (hb:b≤w.heap.size)(hx:Rd w A n cap (db 4294967296 m))(hln:n≤1099511627776:=by omega):aQ aM 95 #[AT A n cap] w (Gv w (WR b m)):=by
 have h:=LM hx hln (qL iS _)
 rw [j1 iS] at h
 exact h.mono (Gv.imp (WR.imp hb))
theorem CI (hx:Rd w A n cap (db 4294967296 X))(hln:n≤274877906944)(hy:Rd w D m cd (db 4294967296 Y))(hlm:m≤274877906944)(hY:Y≠0):aQ aM 94 #[AT A n cap,AT D m cd] w (Gv w (T2 (WD (X/Y)) (WD (X%Y)))):=by
 have hl:=hx.len
 have f:=hy.len
 have o:=G0 iS X
 have p:=G0 iS Y
 rw [hl] at o
 rw [f] at p
 have hm:0<m:=by
  refine Nat.pos_of_ne_zero fun e=>hY ?_
  rw [←s7 iS (n:=Y),f,e]
 have h:=LO hx hln hy hlm (qL iS _) (qL iS _) o hm (by omega)
 rw [j1 iS,j1 iS] at h
 exact h
theorem NS (h:Wf xs):(db 4294967296 (nv xs)).length≤2*xs.length:=by
 refine uM iS ?_
 have:=gW h
 rwa [sQ,←Nat.pow_mul] at this
theorem Rd.hl {n0 c0:Nat}(h:Rd w A k c (db 4294967296 m))(hx:Rd w0 A0 n0 c0 xs)(hm:m≤nv xs):k≤2*n0:=by
 have o:=h.len
 have f:=NS hx.wf
 rw [hx.len] at f
 have p:=uL iS hm
 omega
theorem LQ (hx:Rd w A n cap xs)(hln:n≤137438953472)(hy:Rd w D m cd ys)(hlm:m≤137438953472)(hy0:nv ys≠0):aQ aM 123 #[AT A n cap,AT D m cd] w (Gv w (T3 (WR w.heap.size (nv xs/nv ys)) (WR w.heap.size (nv xs%nv ys)) (Is (v4 0)))):=by
 refine bP Tryz.func123 G (n:=28) G (bq G) (args:= [AT A n cap,AT D m cd]) (bH [(0,AT A n cap),(1,AT D m cd)] ⟨rfl,rfl,Fo⟩ (sr (mv 3 G (aA (sr (mv 1 G (cl (vs:= [AT D m cd]) (Ext.refl w) (tV hy) G (by kernel_rfl) fun _ _ r3 e2 aj=>?_)))))))
 obtain⟨A4,V,c4,rfl,o⟩:=r3
 refine mv 1 G (aA (aH (aH ?_)))
 have bh:=o.hl hy (aS _)
 have am:=o.len
 have bf:V≠0:=fun e=>hy0 (by rw [←s7 iS (n:=nv ys),am,e])
 refine aJ (mv 1 G (pu (v:= v4 V) G (aN G G G false (nV (a:=V) (b:=0) G G) (aA (aV G (b8 (aK (sr (mv 1 G (cl (vs:= [AT A n cap]) aj (tV (hx.ext e2)) G (by kernel_rfl) fun _ _ r7 e6 ae=>?_))))))))))
 obtain⟨A8,n8,c8,rfl,H⟩:=r7
 refine mv 1 G (aA (aH ?_))
 have ba:=H.hl hx (aS _)
 refine aJ (mv 2 G (cl (vs:= [AT A8 n8 c8,AT A4 V c4]) ae (CI H (by omega) (o.ext e6) (by omega) hy0) G (by kernel_rfl) fun _ _ ah _ I=>?_))
 obtain⟨_,_,rfl,⟨E,F,U,rfl,f⟩,⟨p,L,q,rfl,h⟩⟩:=ah
 refine mv 1 G (pu (v:= AT E F U) G (pu (v:= AT p L q) G (mv 2 G (aA (aH ?_)))))
 have az:=f.hl hx (i8 _ _)
 have aw:=h.hl hx (Nat.mod_le _ _)
 refine aJ (mv 1 G (cl (vs:= [AT E F U]) I (xG I.size f) G (by kernel_rfl) fun _ _ aa av M=>?_))
 obtain⟨ab,W,ag,rfl,ak,an⟩:=aa
 refine mv 1 G (cl (vs:= [AT p L q]) M (xG M.size (h.ext av)) G (by kernel_rfl) fun _ _ Z X au=>?_)
 obtain⟨aq,ao,ar,rfl,ai,Y⟩:=Z
 refine mv 3 G (aA (bD (bC [AT ab W ag,AT aq ao ar,I0] G ⟨rfl,rfl,rfl,Fo⟩ ?_)))
 exact⟨_,rfl,⟨_,_,_,rfl,⟨_,_,_,rfl,ak,(an.ext X)⟩,⟨_,_,_,rfl,ai,Y⟩,rfl⟩,au⟩
theorem Zi.sg (h:Zi w s A n cap z):Go.Proofs.YtkkabncicmhjfaaGreat.sg s z.natAbs=z:=by
 obtain⟨xs,_,rfl⟩:=h
 rw [jU]
theorem y3 (h:ln x=0):x=0:=by
 have:=kO.1 (show (wd x.natAbs).length=0 from h)
 omega
theorem iP (s:Bool)(m:Nat):ln (sg s m)=(wd m).length:=by unfold ln;rw [jU]
theorem tN (h:x<y):bN x y= -1:=by unfold bN;rw [if_pos h]
theorem tM (h:y<x):bN x y=1:=by unfold bN;rw [if_neg (by omega),if_neg (by omega)]
theorem L3 (h:x=y):bN x y=0:=kK.2 h
theorem LD (h:bN x 0<bN y 0):bN x y= -1:=tN (by unfold bN at h;split at h <;> split at h <;> (try split at h) <;> omega)
theorem LE (h:bN y 0<bN x 0):bN x y=1:=tM (by unfold bN at h;split at h <;> split at h <;> (try split at h) <;> omega)
theorem L5 (h:bN x 0=bN y 0):bN x 0*dY (Int.natAbs x) (Int.natAbs y)=bN x y:=by
 rcases Int.lt_trichotomy x 0 with hx | hx | hx
 ·have p:y<0:=oC.1 (by rw [←h,tN hx];decide)
  rw [tN hx]
  unfold bN dY
  by_cases f:x<y
  ·rw [if_neg (by omega),if_neg (by omega),if_pos f];rfl
  ·by_cases o:x=y
   ·rw [if_neg (by omega),if_pos (by omega),if_neg f,if_pos o];rfl
   ·rw [if_pos (by omega),if_neg f,if_neg o];rfl
 ·subst hx
  have p:y=0:=kK.1 (by rw [←h];rfl)
  subst p;rfl
 ·have p:0<y:=x8.1 (by rw [←h,tM hx];decide)
  rw [tM hx,Int.one_mul]
  unfold bN dY
  by_cases f:x<y
  ·rw [if_pos (by omega),if_pos f]
  ·by_cases o:x=y
   ·rw [if_neg (by omega),if_pos (by omega),if_neg f,if_pos o]
   ·rw [if_neg (by omega),if_neg (by omega),if_neg f,if_neg o]
theorem GE {x y:Nat}(h:y≤x):cH .geq (dY x y) 0=some true:=by
 have e:¬dY x y<0:=fun e=>by have:=mP.1 e;omega
 exact yC
theorem GF {x y:Nat}(h:¬y≤x):cH .geq (dY x y) 0=some false:=by
 have e:=mP.2 (show x<y by omega)
 exact oN
section
variable {w:a7}{A B:Option aG}{n cap m cap' i j:Nat}
theorem PU (hb:b≤w.heap.size)(hx:Wi w A n cap i)(hl:n≤68719476735):aQ aM 33 #[AT A n cap] w (Gv w (WR b i)):=by
 obtain⟨xs,f,rfl⟩:=hx
 exact (LW f (by omega)).mono (gw hb)
theorem F9 (hb:b≤w.heap.size)(hx:Wi w A n cap i)(hl:n≤68719476735)(hy:Wi w B m cap' j)(hl':m≤68719476735):aQ aM 100 #[AT A n cap,AT B m cap'] w (Gv w (WR b (i+j))):=by
 obtain⟨xs,f,rfl⟩:=hx
 obtain⟨ys,h,rfl⟩:=hy
 exact (LY f (by omega) h (by omega)).mono (gw hb)
theorem sD (hx:Wi w A n cap i)(hl:n≤68719476735)(hy:Wi w B m cap' j)(hl':m≤68719476735):aQ aM 101 #[AT A n cap,AT B m cap'] w (Gv w (Is (v4 (dY i j)))):=by
 obtain⟨xs,f,rfl⟩:=hx
 obtain⟨ys,h,rfl⟩:=hy
 exact (LX f (by omega) h (by omega)).mono EQ
theorem uQ (hb:b≤w.heap.size)(hx:Wi w A n cap i)(hl:n≤68719476735)(hy:Wi w B m cap' j)(hl':m≤68719476735)(hij:j≤i):aQ aM 102 #[AT A n cap,AT B m cap'] w (Gv w (T2 (WR b (i-j)) (Is (v4 0)))):=by
 obtain⟨xs,f,rfl⟩:=hx
 obtain⟨ys,h,rfl⟩:=hy
 exact (LV f (by omega) h (by omega) hij).mono (Gv.imp (T2.imp (WR.imp hb) Is.imp))
theorem PS (hb:b≤w.heap.size)(hx:Wi w A n cap i)(hl:n≤68719476735)(hy:Wi w B m cap' j)(hl':m≤68719476735):aQ aM 96 #[AT A n cap,AT B m cap'] w (Gv w (WR b (i*j))):=by
 obtain⟨xs,f,rfl⟩:=hx
 obtain⟨ys,h,rfl⟩:=hy
 exact (LU f hl h hl').mono (gw hb)
theorem PQ (hb:b≤w.heap.size)(hx:Wi w A n cap i)(hl:n≤68719476735)(hy:Wi w B m cap' j)(hl':m≤68719476735)(h0:j≠0):aQ aM 123 #[AT A n cap,AT B m cap'] w (Gv w (T3 (WR b (i/j)) (WR b (i%j)) (Is (v4 0)))):=by
 obtain⟨xs,f,rfl⟩:=hx
 obtain⟨ys,h,rfl⟩:=hy
 exact (LQ f (by omega) h (by omega) h0).mono (Gv.imp (T3.imp (WR.imp hb) (WR.imp hb) Is.imp))
end
theorem jK (hb:b≤w.heap.size)(hx:Wi w A n cap m)(hl:n≤68719476735):aQ aM 10 #[.bool s,AT A n cap] w (Gv w (ZR b (sg s m))):=by
 refine Calls.mono (R:=Gv w (ZR w.heap.size (sg s m))) ?_ (Gv.imp (ZR.imp hb))
 refine bP Tryz.func10 G (n:=16) G (bq G) (args:= (O s A n cap)) (bH [(0,.bool s),(1,AT A n cap)] ⟨rfl,rfl,Fo⟩ (sr (al [F0,S0] (Ext.refl w) (fun _=>by kernel_rfl) G fun _ _ I M _ H=>(aA (sr (mv 1 G (cl (vs:= [AT A n cap]) H (PU H.size (hx.ext H) (aL hl G)) G (by kernel_rfl) fun _ _ r8 e7 L=>?_)))))))
 obtain⟨h,f,o,rfl,W,o9⟩:=r8
 refine mv 1 G (aA (aH ?_))
 by_cases hs:s=true
 ·subst hs
  by_cases q:m=0
  ·have Y:f=0:=by rw [W,q,kT];rfl
   refine aJ (mv 3 G (pu (v:= v4 f) G (aN G G G false (y9) (pu (v:= BY) G (mv 1 G (pu (v:= .agg #[F0,AT h f o]) G ?_))))))
   have D:=(I.ext e7)
   refine so a8 D [F0,AT h f o] L M G G G G fun _ U ab p=>(aA (bD (bC [.agg #[F0,AT h f o]] G ⟨⟨_,rfl,aW a8 U [F0,AT h f o] G (bq G) rfl⟩,Fo⟩ ?_)))
   exact⟨_,rfl,⟨_,_,_,_,rfl,((iL (m:=m) (s:=true) (z:=sg true m) (by rw [pU,q];rfl) W o9 G).updT D ab)⟩,p⟩
  ·have Y:f≠0:=fun e=>q (kO.1 (by rw [←W,e]))
   refine aJ (mv 3 G (pu (v:= v4 f) G (aN G G G true (y8) (pu (v:= By) G (mv 1 G (pu (v:= J true h f o) G ?_))))))
   have E:=(I.ext e7)
   refine so a8 E (O true h f o) L M G G G G fun _ X Z p=>(aA (bD (bC [J true h f o] G ⟨⟨_,rfl,aW a8 X (O true h f o) G (bq G) rfl⟩,Fo⟩ ?_)))
   exact⟨_,rfl,⟨_,_,_,_,rfl,((iL (m:=m) (s:=true) (z:=sg true m) (by rw [pU,decide_eq_true (Nat.pos_of_ne_zero q)];rfl) W o9 G).updT E Z)⟩,p⟩
 ·replace hs:s=false:=by simpa using hs
  subst hs
  refine aJ (mv 5 G (pu (v:= BY) G (mv 1 G (pu (v:= .agg #[F0,AT h f o]) G ?_))))
  have F:=(I.ext e7)
  refine so a8 F [F0,AT h f o] L M G G G G fun _ V aa p=>(aA (bD (bC [.agg #[F0,AT h f o]] G ⟨⟨_,rfl,aW a8 V [F0,AT h f o] G (bq G) rfl⟩,Fo⟩ ?_)))
  exact⟨_,rfl,⟨_,_,_,_,rfl,((iL (m:=m) (s:=false) (z:=sg false m) (by rw [pU];rfl) W o9 G).updT F aa)⟩,p⟩
theorem F6 (hb:b≤w.heap.size)(hx:Zi w sa Aa na ca x)(la:na≤17179869183):aQ aM 18 #[J sa Aa na ca] w (Gv w (ZR b (x))):=by
 refine Calls.mono (R:=Gv w (ZR w.heap.size (x))) ?_ (Gv.imp (ZR.imp hb))
 have Lx:ln x≤17179869183:=a6 hx.ln la
 refine bP Tryz.func18 G (n:=8) G (bq G) (args:= [J sa Aa na ca]) (bH [(0,J sa Aa na ca)] ⟨rfl,Fo⟩ (sr (bx (O sa Aa na ca) (Ext.refl w) G G G fun Z _ o _ _ I=>(bF [F0,S0] I o.lt (fun _=>by kernel_rfl) G fun _ _ M H _ e8 p=>(aA (sr (pf Z 0 G (aP G G (bA dZ (o.ext e8) G) (pf Z 1 G (aP G G (bA cZ (o.ext e8) G) ?_))))))))))
 have ab:ln (sg sa (Int.natAbs x))≤17179869183:=by rw [iP];exact Lx
 refine cl (vs:= (O sa Aa na ca)) p (jK p.size (hx.ext p).wi (aL la G)) G (by kernel_rfl) fun _ _ W V L=>?_
 obtain⟨q,E,h,D,rfl,Y⟩:=W
 have f:=(M.ext V)
 refine so a8 f (O q E h D) L H G G G G fun _ F U X=>(aA (bD (bC [J q E h D] G ⟨⟨_,rfl,aW a8 F (O q E h D) G (bq G) rfl⟩,Fo⟩ ?_)))
 exact⟨_,rfl,⟨_,_,_,_,rfl,((Y.updT f U)).cast (hx.sg)⟩,X⟩
theorem mN (hb:b≤w.heap.size)(hx:Zi w sa Aa na ca x)(la:na≤17179869183):aQ aM 69 #[J sa Aa na ca] w (Gv w (ZR b ((Int.natAbs x:Int)))):=by
 refine Calls.mono (R:=Gv w (ZR w.heap.size ((Int.natAbs x:Int)))) ?_ (Gv.imp (ZR.imp hb))
 have Lx:ln x≤17179869183:=a6 hx.ln la
 refine bP Tryz.func69 G (n:=6) G (bq G) (args:= [J sa Aa na ca]) (bH [(0,J sa Aa na ca)] ⟨rfl,Fo⟩ (sr (bx (O sa Aa na ca) (Ext.refl w) G G G fun Z _ E _ _ I=>(bF [F0,S0] I E.lt (fun _=>by kernel_rfl) G fun _ _ M H _ e8 o=>(aA (sr (pf Z 1 G (aP G G (bA cZ (E.ext e8) G) ?_))))))))
 have ab:ln (sg false (Int.natAbs x))≤17179869183:=by rw [iP];exact Lx
 refine cl (vs:= [F0,AT Aa na ca]) o (jK o.size (hx.ext o).wi (aL la G)) G (by kernel_rfl) fun _ _ W V L=>?_
 obtain⟨p,D,h,q,rfl,Y⟩:=W
 have f:=(M.ext V)
 refine so a8 f (O p D h q) L H G G G G fun _ F U X=>(aA (bD (bC [J p D h q] G ⟨⟨_,rfl,aW a8 F (O p D h q) G (bq G) rfl⟩,Fo⟩ ?_)))
 exact⟨_,rfl,⟨_,_,_,_,rfl,((Y.updT f U)).cast (G)⟩,X⟩
theorem eN (hx:Zi w sa Aa na ca x)(la:na≤17179869183):aQ aM 70 #[J sa Aa na ca] w (Gv w (Is (v4 (bN x 0)))):=by
 have Lx:ln x≤17179869183:=a6 hx.ln la
 refine bP Tryz.func70 G (n:=12) G (bq G) (args:= [J sa Aa na ca]) (bH [(0,J sa Aa na ca)] ⟨rfl,Fo⟩ (sr (bx (O sa Aa na ca) (Ext.refl w) G G G fun _ _ L _ _ F=>(mv 1 G (aA (sr (lo a8 L (O sa Aa na ca) G G G (cl (vs:= [J sa Aa na ca]) F (F6 F.size (hx.ext F) (aL la G)) G (by kernel_rfl) fun _ _ r8 e7 V=>?_))))))))
 obtain⟨Y,A9,I,c9,rfl,Z⟩:=r8
 refine bF [F0,S0] V (L.ext e7).lt (fun _=>by kernel_rfl) G fun o _ h U _ q X=>(so a8 h (O Y A9 I c9) X U G G G G fun _ f D H=>(aA (aH (aH ?_))))
 by_cases E:x<0
 ·obtain rfl:Y=true:=by rw [(((Z.ext q).updT h D)).sgn];exact decide_eq_true E
  refine aJ (pf o 0 G (aP G G (bA dZ f G) (aA (bB G (sr (mv 1 G (aA (bD (cT (bC [v4 (-1)] G ⟨rfl,Fo⟩ ?_))))))))))
  exact⟨_,rfl,(show (v4 (-1):aI)=gK .i64 (bN x 0) by rw [tN E]),H⟩
 ·obtain rfl:Y=false:=by rw [(((Z.ext q).updT h D)).sgn];exact decide_eq_false E
  have M:I=ln x:=(((Z.ext q).updT h D)).len
  by_cases p:x=0
  ·have W:I=0:=by rw [M,p];rfl
   refine aJ (pf o 0 G (aP G G (bA dZ f G) (aA (aV G (b8 (aK (aH (sr (pf o 1 G (aP G G (bA cZ f G) (pu (v:= v4 I) G (aN G G G false (y9) (aR ?_)))))))))))))
   refine aK (aV G (b8 (aK (sr (mv 1 G (aA (bD (bC [I0] G ⟨rfl,Fo⟩ ?_))))))))
   exact⟨_,rfl,(show (v4 0:aI)=gK .i64 (bN x 0) by rw [L3 p]),H⟩
  ·have W:I≠0:=fun e=>p (y3 (by rw [←M,e]))
   refine aJ (pf o 0 G (aP G G (bA dZ f G) (aA (aV G (b8 (aK (aH (sr (pf o 1 G (aP G G (bA cZ f G) (pu (v:= v4 I) G (aN G G G true (y8) (aR ?_)))))))))))))
   refine aK (bB G (sr (mv 1 G (aA (bD (cT (bC [v4 1] G ⟨rfl,Fo⟩ ?_)))))))
   exact⟨_,rfl,(show (v4 1:aI)=gK .i64 (bN x 0) by rw [tM (by omega)]),H⟩
theorem PO {nb:Nat}(hx:Zi w sa Aa na ca x)(la:na≤17179869183)(hy:Zi w sb Ab nb cb y)(lb:nb≤17179869183):aQ aM 99 #[J sa Aa na ca,J sb Ab nb cb] w (Gv w (Is (v4 (dY (Int.natAbs x) (Int.natAbs y))))):=by
 have Lx:ln x≤17179869183:=a6 hx.ln la
 have Ly:ln y≤17179869183:=a6 hy.ln lb
 refine bP Tryz.func99 G (n:=10) G (bq G) (args:= [J sa Aa na ca,J sb Ab nb cb]) (bH [(0,J sa Aa na ca),(1,J sb Ab nb cb)] ⟨rfl,rfl,Fo⟩ (sr (bx (O sa Aa na ca) (Ext.refl w) G G G fun E _ h _ _ o=>(d5 (O sb Ab nb cb) o h.lt G G G fun H _ q _ _ F f=>(mv 1 G (aA (sr (pf E 1 G (aP G G (bA cZ (h.ext F) G) (pf H 1 G (aP G G (bA cZ q G) (cl (vs:= [AT Aa na ca,AT Ab nb cb]) f (sD (hx.ext f).wi (aL la G) (hy.ext f).wi (aL lb G)) G (by kernel_rfl) fun _ _ D _ p=>?_))))))))))))
 obtain rfl:=D
 refine mv 1 G (aA (bD (bC [v4 (dY (Int.natAbs x) (Int.natAbs y))] G ⟨rfl,Fo⟩ ?_)))
 exact⟨_,rfl,rfl,p⟩
theorem uP {nb:Nat}(hx:Zi w sa Aa na ca x)(la:na≤17179869183)(hy:Zi w sb Ab nb cb y)(lb:nb≤17179869183):aQ aM 74 #[J sa Aa na ca,J sb Ab nb cb] w (Gv w (Is (v4 (bN x y)))):=by
 have Lx:ln x≤17179869183:=a6 hx.ln la
 have Ly:ln y≤17179869183:=a6 hy.ln lb
 refine bP Tryz.func74 G (n:=22) G (bq G) (args:= [J sa Aa na ca,J sb Ab nb cb]) (bH [(0,J sa Aa na ca),(1,J sb Ab nb cb)] ⟨rfl,rfl,Fo⟩ (sr (bx (O sa Aa na ca) (Ext.refl w) G G G fun _ _ h _ _ H=>(d5 (O sb Ab nb cb) H h.lt G G G fun _ _ D _ _ U q=>(mv 1 G (aA (sr (lo a8 (h.ext U) (O sa Aa na ca) G G G (cl (vs:= [J sa Aa na ca]) q (eN (hx.ext q) (aL la G)) G (by kernel_rfl) fun _ _ L o p=>?_)))))))))
 obtain rfl:=L
 refine mv 1 G (aA (sr (lo a8 (D.ext o) (O sb Ab nb cb) G G G (cl (vs:= [J sb Ab nb cb]) p (eN (hy.ext p) (aL lb G)) G (by kernel_rfl) fun _ _ I E f=>?_))))
 obtain rfl:=I
 refine mv 1 G (aA (aH (aH ?_)))
 by_cases hs:bN x 0=bN y 0
 ·refine aJ (mv 2 G (aN G G G false (uA hs) (aA (aV G (b8 (aK (sr (mv 1 G (lo a8 (h.ext (U.t (o.t E))) (O sa Aa na ca) G G G (lo a8 (D.ext (o.t E)) (O sb Ab nb cb) G G G (cl (vs:= [J sa Aa na ca,J sb Ab nb cb]) f (PO (hx.ext f) (aL la G) (hy.ext f) (aL lb G)) G (by kernel_rfl) fun _ _ F _ M=>?_)))))))))))
  obtain rfl:=F
  refine aT G G G (bN x y) (GV (L5 hs) (tP _ _).1 (tP _ _).2) (mv 1 G (aA (bD (bC [v4 (bN x y)] G ⟨rfl,Fo⟩ ?_))))
  exact⟨_,rfl,rfl,M⟩
 ·by_cases hl:bN x 0<bN y 0
  ·refine aJ (mv 2 G (aN G G G true (u9 hs) (aA (bB G (aH (sr (mv 2 G (aN G G G true (uF hl) (aA (bB G (sr (mv 1 G (aR ?_)))))))))))))
   refine aK (bD (cT (cT (bC [v4 (-1)] G ⟨rfl,Fo⟩ ?_))))
   exact⟨_,rfl,(show (v4 (-1):aI)=gK .i64 (bN x y) by rw [LD hl]),f⟩
  ·refine aJ (mv 2 G (aN G G G true (u9 hs) (aA (bB G (aH (sr (mv 2 G (aN G G G false (uG) (aA (aV G (b8 (aK (aH ?_)))))))))))))
   refine aJ (mv 1 G (aA (bD (cT (bC [v4 1] G ⟨rfl,Fo⟩ ?_)))))
   exact⟨_,rfl,(show (v4 1:aI)=gK .i64 (bN x y) by rw [LE (by omega)]),f⟩
theorem qF {nb:Nat}(hb:b≤w.heap.size)(hx:Zi w sa Aa na ca x)(la:na≤17179869183)(hy:Zi w sb Ab nb cb y)(lb:nb≤17179869183):aQ aM 77 #[J sa Aa na ca,J sb Ab nb cb] w (Gv w (ZR b (x+y))):=by
 refine Calls.mono (R:=Gv w (ZR w.heap.size (x+y))) ?_ (Gv.imp (ZR.imp hb))
 have Lx:ln x≤17179869183:=a6 hx.ln la
 have Ly:ln y≤17179869183:=a6 hy.ln lb
 refine bP Tryz.func77 G (n:=54) G (bq G) (args:= [J sa Aa na ca,J sb Ab nb cb]) (bH [(0,J sa Aa na ca),(1,J sb Ab nb cb)] ⟨rfl,rfl,Fo⟩ (sr (bx (O sa Aa na ca) (Ext.refl w) G G G fun M _ p _ _ fz=>(d5 (O sb Ab nb cb) fz p.lt G G G fun V _ q _ _ U ij=>(bF [F0,S0] ij q.lt (fun _=>by kernel_rfl) G fun _ _ H F _ f o=>(aA (aH (aH ?_))))))))
 by_cases am:sa=true
 ·subst am
  by_cases I:sb=true
  ·subst I
   refine aJ (pf M 0 G (aP G G (bA dZ (p.ext (U.t f)) G) (pf V 0 G (aP G G (bA dZ (q.ext f) G) (pu (v:= By) G (aA (bB G (sr (pf M 1 G (aP G G (bA cZ (p.ext (U.t f)) G) (pf V 1 G (aP G G (bA cZ (q.ext f) G) ?_))))))))))))
   have dh:(wd ((Int.natAbs x)+(Int.natAbs y))).length≤17179869184:=a6 (y4 _ _) (Nat.succ_le_succ (Nat.max_le.2 ⟨a6 Lx (by decide),a6 Ly (by decide)⟩))
   refine cl (vs:= [AT Aa na ca,AT Ab nb cb]) o (F9 o.size (hx.ext o).wi (aL la G) (hy.ext o).wi (aL lb G)) G (by kernel_rfl) fun _ _ ig eg h=>?_
   obtain⟨ge,gb,gf,rfl,fx,fa⟩:=ig
   refine mv 1 G (aA (sr (pf M 0 G (aP G G (bA dZ (p.ext (U.t (f.t eg))) G) (mv 1 G ?_)))))
   have ir:ln (sg true ((Int.natAbs x)+(Int.natAbs y)))≤17179869184:=by rw [iP];exact dh
   refine cl (vs:= (O true ge gb gf)) h (jK h.size fa.wi (by rw [fx];exact a6 dh (by decide))) G (by kernel_rfl) fun _ _ fw fh D=>?_
   obtain⟨bv,bf,bi,bp,rfl,ie⟩:=fw
   have av:=(H.ext (eg.t fh))
   refine so a8 av (O bv bf bi bp) D F G G G G fun _ dz ik E=>(aA (bD (cT (bC [J bv bf bi bp] G ⟨⟨_,rfl,aW a8 dz (O bv bf bi bp) G (bq G) rfl⟩,Fo⟩ ?_))))
   exact⟨_,rfl,⟨_,_,_,_,rfl,((ie.updT av ik)).cast (by rw [x7,hx.sg,hy.sg])⟩,E⟩
  ·replace I:sb=false:=by simpa using I
   subst I
   refine aJ (pf M 0 G (aP G G (bA dZ (p.ext (U.t f)) G) (pf V 0 G (aP G G (bA dZ (q.ext f) G) (pu (v:= BY) G (aA (aV G (b8 (aK (aH (aH ?_)))))))))))
   by_cases L:Int.natAbs y≤Int.natAbs x
   ·refine aJ (pf M 1 G (aP G G (bA cZ (p.ext (U.t f)) G) (pf V 1 G (aP G G (bA cZ (q.ext f) G) (cl (vs:= [AT Aa na ca,AT Ab nb cb]) o (sD (hx.ext o).wi (aL la G) (hy.ext o).wi (aL lb G)) G (by kernel_rfl) fun _ _ fq aq h=>?_)))))
    obtain rfl:=fq
    refine aN G G G true (GE L) (aA (bB G (sr (pf M 1 G (aP G G (bA cZ (p.ext (U.t (f.t aq))) G) (pf V 1 G (aP G G (bA cZ (q.ext (f.t aq)) G) ?_)))))))
    have cu:(wd ((Int.natAbs x)-(Int.natAbs y))).length≤17179869183:=a6 (jX (Nat.sub_le _ _)) Lx
    refine cl (vs:= [AT Aa na ca,AT Ab nb cb]) h (uQ h.size (hx.ext h).wi (aL la G) (hy.ext h).wi (aL lb G) L) G (by kernel_rfl) fun _ _ go de D=>?_
    obtain⟨_,_,rfl,⟨cv,df,ee,rfl,fd,ga⟩,rfl⟩:=go
    refine mv 1 G (pu (v:= AT cv df ee) G (pu (v:= v4 0) G (mv 2 G (aA (sr (pf M 0 G (aP G G (bA dZ (p.ext (U.t (f.t (aq.t de)))) G) (mv 1 G ?_))))))))
    have ip:ln (sg true ((Int.natAbs x)-(Int.natAbs y)))≤17179869183:=by rw [iP];exact cu
    refine cl (vs:= (O true cv df ee)) D (jK D.size ga.wi (by rw [fd];exact a6 cu (by decide))) G (by kernel_rfl) fun _ _ fg gj E=>?_
    obtain⟨bj,bz,bt,cg,rfl,fy⟩:=fg
    have ar:=(H.ext (aq.t (de.t gj)))
    refine so a8 ar (O bj bz bt cg) E F G G G G fun _ dm fj W=>(aA (bD (cT (bC [J bj bz bt cg] G ⟨⟨_,rfl,aW a8 dm (O bj bz bt cg) G (bq G) rfl⟩,Fo⟩ ?_))))
    exact⟨_,rfl,⟨_,_,_,_,rfl,((fy.updT ar fj)).cast (by rw [pT L];show sg true _+sg false _=_;rw [hx.sg,hy.sg])⟩,W⟩
   ·refine aJ (pf M 1 G (aP G G (bA cZ (p.ext (U.t f)) G) (pf V 1 G (aP G G (bA cZ (q.ext f) G) (cl (vs:= [AT Aa na ca,AT Ab nb cb]) o (sD (hx.ext o).wi (aL la G) (hy.ext o).wi (aL lb G)) G (by kernel_rfl) fun _ _ fp ao h=>?_)))))
    obtain rfl:=fp
    refine aN G G G false (GF L) (aA (aV G (b8 (aK (sr (pf V 1 G (aP G G (bA cZ (q.ext (f.t ao)) G) (pf M 1 G (aP G G (bA cZ (p.ext (U.t (f.t ao))) G) ?_)))))))))
    have cn:(wd ((Int.natAbs y)-(Int.natAbs x))).length≤17179869183:=a6 (jX (Nat.sub_le _ _)) Ly
    refine cl (vs:= [AT Ab nb cb,AT Aa na ca]) h (uQ h.size (hy.ext h).wi (aL lb G) (hx.ext h).wi (aL la G) (by omega)) G (by kernel_rfl) fun _ _ gk dr D=>?_
    obtain⟨_,_,rfl,⟨co,dw,cz,rfl,fv,fk⟩,rfl⟩:=gk
    refine mv 1 G (pu (v:= AT co dw cz) G (pu (v:= v4 0) G (mv 2 G (aA (sr (pf V 0 G (aP G G (bA dZ (q.ext (f.t (ao.t dr))) G) (mv 1 G ?_))))))))
    have iq:ln (sg false ((Int.natAbs y)-(Int.natAbs x)))≤17179869183:=by rw [iP];exact cn
    refine cl (vs:= [F0,AT co dw cz]) D (jK D.size fk.wi (by rw [fv];exact a6 cn (by decide))) G (by kernel_rfl) fun _ _ fc gx E=>?_
    obtain⟨br,ci,bh,bo,rfl,fe⟩:=fc
    have aw:=(H.ext (ao.t (dr.t gx)))
    refine so a8 aw (O br ci bh bo) E F G G G G fun _ da gy W=>(aA (bD (bC [J br ci bh bo] G ⟨⟨_,rfl,aW a8 da (O br ci bh bo) G (bq G) rfl⟩,Fo⟩ ?_)))
    exact⟨_,rfl,⟨_,_,_,_,rfl,((fe.updT aw gy)).cast (by rw [pT (by omega)];show sg false _+sg true _=_;rw [hx.sg,hy.sg,Int.add_comm])⟩,W⟩
 ·replace am:sa=false:=by simpa using am
  subst am
  by_cases I:sb=true
  ·subst I
   refine aJ (pf M 0 G (aP G G (bA dZ (p.ext (U.t f)) G) (pf V 0 G (aP G G (bA dZ (q.ext f) G) (pu (v:= BY) G (aA (aV G (b8 (aK (aH (aH ?_)))))))))))
   by_cases L:Int.natAbs y≤Int.natAbs x
   ·refine aJ (pf M 1 G (aP G G (bA cZ (p.ext (U.t f)) G) (pf V 1 G (aP G G (bA cZ (q.ext f) G) (cl (vs:= [AT Aa na ca,AT Ab nb cb]) o (sD (hx.ext o).wi (aL la G) (hy.ext o).wi (aL lb G)) G (by kernel_rfl) fun _ _ gg an h=>?_)))))
    obtain rfl:=gg
    refine aN G G G true (GE L) (aA (bB G (sr (pf M 1 G (aP G G (bA cZ (p.ext (U.t (f.t an))) G) (pf V 1 G (aP G G (bA cZ (q.ext (f.t an)) G) ?_)))))))
    have dt:(wd ((Int.natAbs x)-(Int.natAbs y))).length≤17179869183:=a6 (jX (Nat.sub_le _ _)) Lx
    refine cl (vs:= [AT Aa na ca,AT Ab nb cb]) h (uQ h.size (hx.ext h).wi (aL la G) (hy.ext h).wi (aL lb G) L) G (by kernel_rfl) fun _ _ fi dc D=>?_
    obtain⟨_,_,rfl,⟨ei,dn,cp,rfl,fm,ft⟩,rfl⟩:=fi
    refine mv 1 G (pu (v:= AT ei dn cp) G (pu (v:= v4 0) G (mv 2 G (aA (sr (pf M 0 G (aP G G (bA dZ (p.ext (U.t (f.t (an.t dc)))) G) (mv 1 G ?_))))))))
    have iu:ln (sg false ((Int.natAbs x)-(Int.natAbs y)))≤17179869183:=by rw [iP];exact dt
    refine cl (vs:= [F0,AT ei dn cp]) D (jK D.size ft.wi (by rw [fm];exact a6 dt (by decide))) G (by kernel_rfl) fun _ _ ez fb E=>?_
    obtain⟨ch,bu,bm,bc,rfl,gt⟩:=ez
    have az:=(H.ext (an.t (dc.t fb)))
    refine so a8 az (O ch bu bm bc) E F G G G G fun _ cm ib W=>(aA (bD (cT (bC [J ch bu bm bc] G ⟨⟨_,rfl,aW a8 cm (O ch bu bm bc) G (bq G) rfl⟩,Fo⟩ ?_))))
    exact⟨_,rfl,⟨_,_,_,_,rfl,((gt.updT az ib)).cast (by rw [pT L];show sg false _+sg true _=_;rw [hx.sg,hy.sg])⟩,W⟩
   ·refine aJ (pf M 1 G (aP G G (bA cZ (p.ext (U.t f)) G) (pf V 1 G (aP G G (bA cZ (q.ext f) G) (cl (vs:= [AT Aa na ca,AT Ab nb cb]) o (sD (hx.ext o).wi (aL la G) (hy.ext o).wi (aL lb G)) G (by kernel_rfl) fun _ _ gi ak h=>?_)))))
    obtain rfl:=gi
    refine aN G G G false (GF L) (aA (aV G (b8 (aK (sr (pf V 1 G (aP G G (bA cZ (q.ext (f.t ak)) G) (pf M 1 G (aP G G (bA cZ (p.ext (U.t (f.t ak))) G) ?_)))))))))
    have ck:(wd ((Int.natAbs y)-(Int.natAbs x))).length≤17179869183:=a6 (jX (Nat.sub_le _ _)) Ly
    refine cl (vs:= [AT Ab nb cb,AT Aa na ca]) h (uQ h.size (hy.ext h).wi (aL lb G) (hx.ext h).wi (aL la G) (by omega)) G (by kernel_rfl) fun _ _ il ey D=>?_
    obtain⟨_,_,rfl,⟨du,ej,dd,rfl,fo,ia⟩,rfl⟩:=il
    refine mv 1 G (pu (v:= AT du ej dd) G (pu (v:= v4 0) G (mv 2 G (aA (sr (pf V 0 G (aP G G (bA dZ (q.ext (f.t (ak.t ey))) G) (mv 1 G ?_))))))))
    have iw:ln (sg true ((Int.natAbs y)-(Int.natAbs x)))≤17179869183:=by rw [iP];exact ck
    refine cl (vs:= (O true du ej dd)) D (jK D.size ia.wi (by rw [fo];exact a6 ck (by decide))) G (by kernel_rfl) fun _ _ ep ew E=>?_
    obtain⟨ab,Y,ag,aa,rfl,ct⟩:=ep
    have ae:=(H.ext (ak.t (ey.t ew)))
    refine so a8 ae (O ab Y ag aa) E F G G G G fun _ bg dl W=>(aA (bD (bC [J ab Y ag aa] G ⟨⟨_,rfl,aW a8 bg (O ab Y ag aa) G (bq G) rfl⟩,Fo⟩ ?_)))
    exact⟨_,rfl,⟨_,_,_,_,rfl,((ct.updT ae dl)).cast (by rw [pT (by omega)];show sg true _+sg false _=_;rw [hx.sg,hy.sg,Int.add_comm])⟩,W⟩
  ·replace I:sb=false:=by simpa using I
   subst I
   refine aJ (pf M 0 G (aP G G (bA dZ (p.ext (U.t f)) G) (pf V 0 G (aP G G (bA dZ (q.ext f) G) (pu (v:= By) G (aA (bB G (sr (pf M 1 G (aP G G (bA cZ (p.ext (U.t f)) G) (pf V 1 G (aP G G (bA cZ (q.ext f) G) ?_))))))))))))
   have au:(wd ((Int.natAbs x)+(Int.natAbs y))).length≤17179869184:=a6 (y4 _ _) (Nat.succ_le_succ (Nat.max_le.2 ⟨a6 Lx (by decide),a6 Ly (by decide)⟩))
   refine cl (vs:= [AT Aa na ca,AT Ab nb cb]) o (F9 o.size (hx.ext o).wi (aL la G) (hy.ext o).wi (aL lb G)) G (by kernel_rfl) fun _ _ dy ba h=>?_
   obtain⟨eh,el,dg,rfl,dx,cy⟩:=dy
   refine mv 1 G (aA (sr (pf M 0 G (aP G G (bA dZ (p.ext (U.t (f.t ba))) G) (mv 1 G ?_)))))
   have io:ln (sg false ((Int.natAbs x)+(Int.natAbs y)))≤17179869184:=by rw [iP];exact au
   refine cl (vs:= [F0,AT eh el dg]) h (jK h.size cy.wi (by rw [dx];exact a6 au (by decide))) G (by kernel_rfl) fun _ _ dv cx D=>?_
   obtain⟨Z,ai,ah,aj,rfl,cj⟩:=dv
   have X:=(H.ext (ba.t cx))
   refine so a8 X (O Z ai ah aj) D F G G G G fun _ bd ef E=>(aA (bD (cT (bC [J Z ai ah aj] G ⟨⟨_,rfl,aW a8 bd (O Z ai ah aj) G (bq G) rfl⟩,Fo⟩ ?_))))
   exact⟨_,rfl,⟨_,_,_,_,rfl,((cj.updT X ef)).cast (by rw [x7,hx.sg,hy.sg])⟩,E⟩
theorem sC {nb:Nat}(hb:b≤w.heap.size)(hx:Zi w sa Aa na ca x)(la:na≤17179869183)(hy:Zi w sb Ab nb cb y)(lb:nb≤17179869183):aQ aM 73 #[J sa Aa na ca,J sb Ab nb cb] w (Gv w (ZR b (x-y))):=by
 refine Calls.mono (R:=Gv w (ZR w.heap.size (x-y))) ?_ (Gv.imp (ZR.imp hb))
 have Lx:ln x≤17179869183:=a6 hx.ln la
 have Ly:ln y≤17179869183:=a6 hy.ln lb
 refine bP Tryz.func73 G (n:=13) G (bq G) (args:= [J sa Aa na ca,J sb Ab nb cb]) (bH [(0,J sa Aa na ca),(1,J sb Ab nb cb)] ⟨rfl,rfl,Fo⟩ (sr (bx (O sa Aa na ca) (Ext.refl w) G G G fun _ _ H _ _ X=>(d5 (O sb Ab nb cb) X H.lt G G G fun g6 _ o _ _ e8 W=>(bF [F0,S0] W o.lt (fun _=>by kernel_rfl) G fun _ _ I M _ p f=>(aA (sr (lo a8 (H.ext (e8.t p)) (O sa Aa na ca) G G G (pf g6 0 G (aP G G (bA dZ (o.ext p) G) (pu (v:= .bool (!sb)) G (pf g6 1 G (aP G G (bA cZ (o.ext p) G) ?_)))))))))))))
 refine pu (v:= .agg #[.bool (!sb),AT Ab nb cb]) G ?_
 have ag:ln (x+(-y))≤17179869184:=a6 (gO Lx (show ln (-y)≤17179869183 by rw [uH];exact Ly)) (by decide)
 refine cl (vs:= [J sa Aa na ca,.agg #[.bool (!sb),AT Ab nb cb]]) f (qF f.size (hx.ext f) (aL la G) (hy.ext f).not (aL lb G)) G (by kernel_rfl) fun _ _ V U Y=>?_
 obtain⟨q,E,D,F,rfl,ab⟩:=V
 have h:=(I.ext U)
 refine so a8 h (O q E D F) Y M G G G G fun _ L Z aa=>(aA (bD (bC [J q E D F] G ⟨⟨_,rfl,aW a8 L (O q E D F) G (bq G) rfl⟩,Fo⟩ ?_)))
 exact⟨_,rfl,⟨_,_,_,_,rfl,((ab.updT h Z)).cast (by omega)⟩,aa⟩
theorem k9 {nb:Nat}(hb:b≤w.heap.size)(hx:Zi w sa Aa na ca x)(la:na≤17179869183)(hy:Zi w sb Ab nb cb y)(lb:nb≤17179869183):aQ aM 67 #[J sa Aa na ca,J sb Ab nb cb] w (Gv w (ZR b (x*y))):=by
 refine Calls.mono (R:=Gv w (ZR w.heap.size (x*y))) ?_ (Gv.imp (ZR.imp hb))
 have Lx:ln x≤17179869183:=a6 hx.ln la
 have Ly:ln y≤17179869183:=a6 hy.ln lb
 refine bP Tryz.func67 G (n:=18) G (bq G) (args:= [J sa Aa na ca,J sb Ab nb cb]) (bH [(0,J sa Aa na ca),(1,J sb Ab nb cb)] ⟨rfl,rfl,Fo⟩ (sr (bx (O sa Aa na ca) (Ext.refl w) G G G fun g1 _ q _ _ ah=>(d5 (O sb Ab nb cb) ah q.lt G G G fun g6 _ D _ _ e8 aa=>(bF [F0,S0] aa D.lt (fun _=>by kernel_rfl) G fun _ _ L U _ f h=>(aA (sr (pf g1 1 G (aP G G (bA cZ (q.ext (e8.t f)) G) (pf g6 1 G (aP G G (bA cZ (D.ext f) G) ?_)))))))))))
 have M:(wd ((Int.natAbs x)*(Int.natAbs y))).length≤34359738366:=a6 (E8 _ _) (Nat.add_le_add Lx Ly)
 refine cl (vs:= [AT Aa na ca,AT Ab nb cb]) h (PS h.size (hx.ext h).wi (aL la G) (hy.ext h).wi (aL lb G)) G (by kernel_rfl) fun _ _ Z p W=>?_
 obtain⟨am,ak,an,rfl,ag,Y⟩:=Z
 refine mv 1 G (aA (sr (pf g1 0 G (aP G G (bA dZ (q.ext (e8.t (f.t p))) G) (pf g6 0 G (aP G G (bA dZ (D.ext (f.t p)) G) (pu (v:= .bool (!(sa==sb))) G (mv 1 G ?_))))))))
 have av:ln (sg (!(sa==sb)) ((Int.natAbs x)*(Int.natAbs y)))≤34359738366:=by rw [iP];exact M
 refine cl (vs:= [.bool (!(sa==sb)),AT am ak an]) W (jK W.size Y.wi (by rw [ag];exact a6 M (by decide))) G (by kernel_rfl) fun _ _ ab ae ao=>?_
 obtain⟨I,E,H,F,rfl,X⟩:=ab
 have o:=(L.ext (p.t ae))
 refine so a8 o (O I E H F) ao U G G G G fun _ V aj ai=>(aA (bD (bC [J I E H F] G ⟨⟨_,rfl,aW a8 V (O I E H F) G (bq G) rfl⟩,Fo⟩ ?_)))
 exact⟨_,rfl,⟨_,_,_,_,rfl,((X.updT o aj)).cast ((BV _ _ _ _).trans (by rw [hx.sg,hy.sg]))⟩,ai⟩
theorem yG {nb:Nat}(hb:b≤w.heap.size)(hx:Zi w sa Aa na ca x)(la:na≤17179869183)(hy:Zi w sb Ab nb cb y)(lb:nb≤17179869183)(h0:y≠0):aQ aM 97 #[J sa Aa na ca,J sb Ab nb cb] w (Gv w (T3 (ZR b (x.tdiv y)) (ZR b (x.tmod y)) (Is (v4 0)))):=by
 refine Calls.mono (R:=Gv w (T3 (ZR w.heap.size (x.tdiv y)) (ZR w.heap.size (x.tmod y)) (Is (v4 0)))) ?_ (Gv.imp (T3.imp (ZR.imp hb) (ZR.imp hb) Is.imp))
 have Lx:ln x≤17179869183:=a6 hx.ln la
 have Ly:ln y≤17179869183:=a6 hy.ln lb
 have co:Int.natAbs y≠0:=by omega
 refine bP Tryz.func97 G (n:=34) G (bq G) (args:= [J sa Aa na ca,J sb Ab nb cb]) (bH [(0,J sa Aa na ca),(1,J sb Ab nb cb)] ⟨rfl,rfl,Fo⟩ (sr (bx (O sa Aa na ca) (Ext.refl w) G G G fun g1 _ ae _ _ cu=>(d5 (O sb Ab nb cb) cu ae.lt G G G fun g6 _ ar _ _ e8 cp=>(bF [F0,S0] cp ar.lt (fun _=>by kernel_rfl) G fun _ _ ag bt _ X ci=>(bF [F0,S0] ci ag.lt (fun _=>by kernel_rfl) G fun _ _ bc br _ p ab=>(mv 1 G (aA (sr (pf g1 1 G (aP G G (bA cZ (ae.ext (e8.t (X.t p))) G) (pf g6 1 G (aP G G (bA cZ (ar.ext (X.t p)) G) ?_)))))))))))))
 have ah:(wd ((Int.natAbs x)/(Int.natAbs y))).length≤17179869183:=a6 (jX (i8 _ _)) Lx
 have aq:(wd ((Int.natAbs x)%(Int.natAbs y))).length≤17179869183:=a6 (jX (Nat.mod_le _ _)) Lx
 refine cl (vs:= [AT Aa na ca,AT Ab nb cb]) ab (PQ ab.size (hx.ext ab).wi (aL la G) (hy.ext ab).wi (aL lb G) co) G (by kernel_rfl) fun _ _ cz aa aw=>?_
 obtain⟨_,_,_,rfl,⟨av,ai,aj,rfl,ct,cj⟩,⟨am,au,ak,rfl,cx,ch⟩,rfl⟩:=cz
 refine mv 1 G (pu (v:= AT av ai aj) G (pu (v:= AT am au ak) G (pu (v:= v4 0) G (mv 3 G (aA (aH (sr (mv 1 G (pu (v:= BY) G (aA (aV G (b8 (aK ?_)))))))))))))
 refine aH ?_
 have dc:ln (sg (!(sa==sb)) ((Int.natAbs x)/(Int.natAbs y)))≤17179869183:=by rw [iP];exact ah
 have de:ln (sg sa ((Int.natAbs x)%(Int.natAbs y)))≤17179869183:=by rw [iP];exact aq
 refine cU bR 11 [] [Is (no g1 0),Is (.bool sa),Is (no g6 0),Is (.bool sb),Is (.bool (!(sa==sb))),Is (AT av ai aj),ZR w.heap.size (sg (!(sa==sb)) ((Int.natAbs x)/(Int.natAbs y))),Is (no g1 0),Is (.bool sa),Is (AT am au ak),ZR w.heap.size (sg sa ((Int.natAbs x)%(Int.natAbs y)))] [[],[0],[],[2],[1,3],[],[4,5],[],[7],[],[8,9]] [[],[0],[],[2],[0,1,2,3],[],[0,1,2,3,4,5],[],[7],[],[0,1,2,3,4,5,6,7,8,9],[0,1,2,3,4,5,6,7,8,9,10],[0,1,2,3,4,5,6,7,8,9,10,11],[0,1,2,3,4,5,6,7,8,9,10,11,12]] rfl
  (aF G G (aC G G ?_) (aF G G (aC G G ?_) (aF G G (aC G G ?_) (aF G G (aC G G ?_) (aF G G (aC G G ?_) (aF G G (aC G G ?_) (aF G G (aC G G ?_) (aF G G (aC G G ?_) (aF G G (aC G G ?_) (aF G G (aC G G ?_) (aF G G (aC G G ?_) cE))))))))))) ?_
 ·exact fun _ _=>aB (pf g1 0 G (aE G aD G))
 ·exact fun _ bz=>dk G G (aB (aP G G (bA dZ (ae.ext (e8.t (X.t (p.t (aa.t bz))))) G) (aE G aD G)))
 ·exact fun _ _=>aB (pf g6 0 G (aE G aD G))
 ·exact fun _ cv=>dk G G (aB (aP G G (bA dZ (ar.ext (X.t (p.t (aa.t cv)))) G) (aE G aD G)))
 ·exact fun _ _=>dk G G (dk G G (aB (pu (v:= .bool (!(sa==sb))) G (aE G aD G))))
 ·exact fun _ _=>aB (mv 1 G (aE G aD G))
 ·intro _ bh
  have o:=aw.trans bh
  refine dk G G (dk G G (aB ?_))
  have dd:ln (sg (!(sa==sb)) ((Int.natAbs x)/(Int.natAbs y)))≤17179869183:=by rw [iP];exact ah
  refine cl (vs:= [.bool (!(sa==sb)),AT av ai aj]) o (jK o.size (cj.ext bh).wi (by rw [ct];exact a6 ah (by decide))) G (by kernel_rfl) fun _ _ bu cg ao=>?_
  obtain⟨_,_,_,_,rfl,ck⟩:=bu
  exact aE G cg ⟨_,_,_,_,rfl,ck⟩
 ·exact fun _ _=>aB (pf g1 0 G (aE G aD G))
 ·exact fun _ cm=>dk G G (aB (aP G G (bA dZ (ae.ext (e8.t (X.t (p.t (aa.t cm))))) G) (aE G aD G)))
 ·exact fun _ _=>aB (mv 1 G (aE G aD G))
 ·intro _ bd
  have o:=aw.trans bd
  refine dk G G (dk G G (aB ?_))
  have da:ln (sg sa ((Int.natAbs x)%(Int.natAbs y)))≤17179869183:=by rw [iP];exact aq
  refine cl (vs:= (O sa am au ak)) o (jK o.size (ch.ext bd).wi (by rw [cx];exact a6 aq (by decide))) G (by kernel_rfl) fun _ _ bo bm ao=>?_
  obtain⟨_,_,_,_,rfl,bp⟩:=bo
  exact aE G bm ⟨_,_,_,_,rfl,bp⟩
 ·intro _ U
  have o:=aw.trans U
  refine dk G G (dk G G (dk G G (dk G G (dk G G (dk G G (aO G G fun _ _ ba _ bi=>?_))))))
  obtain⟨H,F,E,W,rfl,M⟩:=ba
  have M:=M.ext bi
  refine dk G G (dk G G (dk G G (aO G G fun _ _ bj _ bg=>?_)))
  obtain⟨Y,Z,q,V,rfl,I⟩:=bj
  have I:=I.ext bg
  refine aB ?_
  have f:=(ag.ext (p.t (aa.t U)))
  refine so a8 f (O H F E W) o bt G G G G fun _ az L ao=>?_
  have h:=((bc.ext (aa.t U)).vN L)
  refine so a8 h (O Y Z q V) ao br G G G G fun _ an D bv=>(mv 1 G (aR (cF (aK (bD (bC [J H F E W,J Y Z q V,I0] G ⟨⟨_,rfl,aW a8 (az.vN D) (O H F E W) G (bq G) rfl⟩,⟨_,rfl,aW a8 an (O Y Z q V) G (bq G) rfl⟩,rfl,Fo⟩ ?_))))))
  exact⟨_,rfl,⟨_,_,_,rfl,⟨_,_,_,_,rfl,(((M.updT f L).updT h D)).cast ((wZ _ _ _ _).trans (by rw [hx.sg,hy.sg]))⟩,⟨_,_,_,_,rfl,(((I.updT f L).updT h D)).cast ((BT sa sb _ _).trans (by rw [hx.sg,hy.sg]))⟩,rfl⟩,bv⟩
theorem B9:x.tmod y=0↔x.natAbs%y.natAbs=0:=by rw [←Int.natAbs_tmod,Int.natAbs_eq_zero]
theorem nP {nb:Nat}(hb:b≤w.heap.size)(hx:Zi w sa Aa na ca x)(la:na≤17179869183)(hy:Zi w sb Ab nb cb y)(lb:nb≤17179869183)(h0:y≠0)(h1:x.natAbs%y.natAbs=0):aQ aM 68 #[J sa Aa na ca,J sb Ab nb cb] w (Gv w (T2 (ZR b (x.tdiv y)) (Is (v4 0)))):=by
 refine Calls.mono (R:=Gv w (T2 (ZR w.heap.size (x.tdiv y)) (Is (v4 0)))) ?_ (Gv.imp (T2.imp (ZR.imp hb) Is.imp))
 have Lx:ln x≤17179869183:=a6 hx.ln la
 have Ly:ln y≤17179869183:=a6 hy.ln lb
 refine bP Tryz.func68 G (n:=25) G (bq G) (args:= [J sa Aa na ca,J sb Ab nb cb]) (bH [(0,J sa Aa na ca),(1,J sb Ab nb cb)] ⟨rfl,rfl,Fo⟩ (sr (bx (O sa Aa na ca) (Ext.refl w) G G G fun _ _ ak _ _ bj=>(d5 (O sb Ab nb cb) bj ak.lt G G G fun _ _ am _ _ e8 bf=>(bF [F0,S0] bf am.lt (fun _=>by kernel_rfl) G fun _ _ W ar _ an F=>(mv 1 G (aA (sr (lo a8 (ak.ext (e8.t an)) (O sa Aa na ca) G G G (lo a8 (am.ext an) (O sb Ab nb cb) G G G ?_))))))))))
 have bp:ln ((x).tdiv y)≤17179869183:=a6 (fC _ _) Lx
 have aw:ln ((x).tmod y)≤17179869183:=a6 (rZ _ _) Lx
 refine cl (vs:= [J sa Aa na ca,J sb Ab nb cb]) F (yG F.size (hx.ext F) (aL la G) (hy.ext F) (aL lb G) h0) G (by kernel_rfl) fun _ _ az ab bc=>?_
 obtain⟨_,_,_,rfl,⟨h,f,o,p,rfl,bg⟩,⟨E,V,L,U,rfl,ao⟩,rfl⟩:=az
 refine mv 1 G (pu (v:= J h f o p) G (pu (v:= J E V L U) G (pu (v:= v4 0) G (bF [F0,S0] bc (W.ext ab).lt (fun _=>by kernel_rfl) G fun _ _ X au _ Z bo=>(bF [F0,S0] bo X.lt (fun _=>by kernel_rfl) G fun _ _ aq ai _ I bm=>?_)))))
 have q:=(X.ext I)
 refine so a8 q (O h f o p) bm au G G G G fun _ ae M ba=>?_
 have D:=(aq.vN M)
 refine so a8 D (O E V L U) ba ai G G G G fun _ aj H av=>(mv 1 G (aA (aH (sr (mv 1 G (pu (v:= BY) G (aA (aV G (b8 (aK (aH (sr (lo a8 aj (O E V L U) G G G ?_)))))))))))))
 refine cl (vs:= [J E V L U]) av (eN (((ao.ext (Z.t I)).updT q M).updT D H).zi (ao.le (aL aw G))) G (by kernel_rfl) fun _ _ bd aa bi=>?_
 obtain rfl:=bd
 refine aN G G G false (C1 (B9.2 h1)) (aA (aV G (b8 (aK (sr (lo a8 ((ae.vN H).ext aa) (O h f o p) G G G ?_))))))
 have Y:=((((W.ext (ab.t (Z.t I))).vN M).vN H).ext aa)
 refine so a8 Y (O h f o p) bi ar G G G G fun _ ah bh ag=>(mv 1 G (aA (bD (bC [J h f o p,I0] G ⟨⟨_,rfl,aW a8 ah (O h f o p) G (bq G) rfl⟩,rfl,Fo⟩ ?_))))
 exact⟨_,rfl,⟨_,_,rfl,⟨_,_,_,_,rfl,(((((bg.ext (Z.t I)).updT q M).updT D H).ext aa).updT Y bh)⟩,rfl⟩,ag⟩
theorem PN {nb:Nat}(hb:b≤w.heap.size)(hx:Zi w sa Aa na ca x)(la:na≤17179869183)(hy:Zi w sb Ab nb cb y)(lb:nb≤17179869183)(h0:y≠0)(h1:x.natAbs%y.natAbs≠0):aQ aM 68 #[J sa Aa na ca,J sb Ab nb cb] w (Gv w (T2 (ZR b (0)) (Is (v4 8)))):=by
 refine Calls.mono (R:=Gv w (T2 (ZR w.heap.size (0)) (Is (v4 8)))) ?_ (Gv.imp (T2.imp (ZR.imp hb) Is.imp))
 have Lx:ln x≤17179869183:=a6 hx.ln la
 have Ly:ln y≤17179869183:=a6 hy.ln lb
 refine bP Tryz.func68 G (n:=25) G (bq G) (args:= [J sa Aa na ca,J sb Ab nb cb]) (bH [(0,J sa Aa na ca),(1,J sb Ab nb cb)] ⟨rfl,rfl,Fo⟩ (sr (bx (O sa Aa na ca) (Ext.refl w) G G G fun _ _ ah _ _ bi=>(d5 (O sb Ab nb cb) bi ah.lt G G G fun _ _ ai _ _ e8 bc=>(bF [F0,S0] bc ai.lt (fun _=>by kernel_rfl) G fun _ _ D ao _ ak h=>(mv 1 G (aA (sr (lo a8 (ah.ext (e8.t ak)) (O sa Aa na ca) G G G (lo a8 (ai.ext ak) (O sb Ab nb cb) G G G ?_))))))))))
 have bo:ln ((x).tdiv y)≤17179869183:=a6 (fC _ _) Lx
 have au:ln ((x).tmod y)≤17179869183:=a6 (rZ _ _) Lx
 refine cl (vs:= [J sa Aa na ca,J sb Ab nb cb]) h (yG h.size (hx.ext h) (aL la G) (hy.ext h) (aL lb G) h0) G (by kernel_rfl) fun _ _ av U az=>?_
 obtain⟨_,_,_,rfl,⟨W,V,aa,ab,rfl,_⟩,⟨f,q,o,p,rfl,am⟩,rfl⟩:=av
 refine mv 1 G (pu (v:= J W V aa ab) G (pu (v:= J f q o p) G (pu (v:= v4 0) G (bF [F0,S0] az (D.ext U).lt (fun _=>by kernel_rfl) G fun _ _ F aq _ aj bm=>(bF [F0,S0] bm F.lt (fun _=>by kernel_rfl) G fun _ _ an ae _ L bj=>?_)))))
 have E:=(F.ext L)
 refine so a8 E (O W V aa ab) bj aq G G G G fun _ _ M aw=>?_
 have I:=(an.vN M)
 refine so a8 I (O f q o p) aw ae G G G G fun _ ag Z ar=>(mv 1 G (aA (aH (sr (mv 1 G (pu (v:= BY) G (aA (aV G (b8 (aK (aH (sr (lo a8 ag (O f q o p) G G G ?_)))))))))))))
 refine cl (vs:= [J f q o p]) ar (eN (((am.ext (aj.t L)).updT E M).updT I Z).zi (am.le (aL au G))) G (by kernel_rfl) fun _ bf ba bh bg=>?_
 obtain rfl:=ba
 refine aN G G G true (C0 (fun e=>h1 (B9.1 e))) (aA (bB G (sr (pu (v:= .agg #[F0,S0]) G ?_))))
 have H:=((((D.ext (U.t (aj.t L))).vN M).vN Z).ext bh)
 refine so a8 H [F0,S0] bg ao G G G G fun _ Y bd X=>(mv 1 G (aA (bD (cT (bC [.agg #[F0,S0],v4 8] G ⟨⟨_,rfl,aW a8 Y [F0,S0] G (bq G) rfl⟩,rfl,Fo⟩ ?_)))))
 exact⟨_,rfl,⟨_,_,rfl,⟨_,_,_,_,rfl,((Zr.zero (w:=bf) (base:=w.heap.size)).updT H bd)⟩,rfl⟩,X⟩
theorem F5 (hb:b≤w.heap.size):aQ aM 5 #[v4 1] w (Gv w (ZR b (1))):=by
 refine Calls.mono (R:=Gv w (ZR w.heap.size (1))) ?_ (Gv.imp (ZR.imp hb))
 refine bP Tryz.func5 G (n:=14) G (bq G) (args:= [v4 1]) (bH [(0,v4 1)] ⟨rfl,Fo⟩ (sr (al [F0,S0] (Ext.refl w) (fun _=>by kernel_rfl) G fun _ _ M Y _ E=>(aA (aH (sr (mv 1 G (pu (v:= BY) G (aA (aV G (b8 (aK (aH ?_)))))))))))))
 refine aJ (mv 1 G (pu (v:= AI 1) G (fA G G (k:=1) (e:=36) [AI 1] (fun _=>by kernel_rfl) fun g6 _ I=>?_)))
 have o9:=O1.mk_ (x:=1) (b:=w.heap.size) I E.size
 have H:=I.ext
 have F:=E.trans H
 have X:=pY o9 (by decide:1≤18446744073709551615) (by decide:1≠0)
 have o:=oL (by decide:1≤18446744073709551615) (by decide:1≠0)
 have ae:ln (sg false 1)≤1:=by rw [iP];exact (Nat.le_of_eq o.symm)
 refine cl (vs:= [F0,AT (some ⟨g6,0,none⟩) 1 1]) F (jK F.size X.wi (by rw [o];exact a6 (Nat.le_of_eq o.symm) (by decide))) G (by kernel_rfl) fun _ _ U ab V=>?_
 obtain⟨h,p,q,D,rfl,W⟩:=U
 have f:=(M.ext (H.t ab))
 refine so a8 f (O h p q D) V Y G G G G fun _ L aa Z=>(aA (bD (bC [J h p q D] G ⟨⟨_,rfl,aW a8 L (O h p q D) G (bq G) rfl⟩,Fo⟩ ?_)))
 exact⟨_,rfl,⟨_,_,_,_,rfl,((W.updT f aa)).cast (G)⟩,Z⟩
theorem LP (hx:Rd w A n cap xs)(hln:n≤137438953472)(hy:Rd w D m cd ys)(hlm:m≤137438953472):aQ aM 66 #[AT A n cap,AT D m cd] w (Gv w (WR w.heap.size (Nat.gcd (nv xs) (nv ys)))):=by
 refine bP Tryz.func66 G (n:=26) G (bq G) (args:= [AT A n cap,AT D m cd]) (bH [(0,AT A n cap),(1,AT D m cd)] ⟨rfl,rfl,Fo⟩ (sr (mv 1 G (aA (sr (mv 1 G (cl (vs:= [AT A n cap]) (Ext.refl w) (tV hx) G (by kernel_rfl) fun _ _ r3 e2 E=>?_)))))))
 obtain⟨_,_,_,rfl,M⟩:=r3
 refine mv 1 G (aA (sr (mv 1 G (cl (vs:= [AT D m cd]) E (tV (hy.ext e2)) G (by kernel_rfl) fun _ v5 r7 e6 q=>?_))))
 obtain⟨_,_,_,rfl,V⟩:=r7
 refine mv 1 G (aA (aH (bG ?_)))
 have ba:=M.hl hx (aS _)
 have bd:=V.hl hy (aS _)
 refine cQ (T:=a7×Option aG×Nat×Nat×Nat×Option aG×Nat×Nat×Nat)
  (fun⟨wr,H,n1,c1,F,L,o,d1,f⟩=> [(5,AT H n1 c1),(6,AT L o d1)])
  (fun⟨wr,H,n1,c1,F,L,o,d1,f⟩=>wr)
  (fun⟨wr,H,n1,c1,F,L,o,d1,f⟩=>(Ext w wr)∧(n1≤274877906944)∧(o≤274877906944)∧(Nat.gcd F f=Nat.gcd (nv xs) (nv ys))∧(Rd wr H n1 c1 (db 4294967296 (F)))∧(Rd wr L o d1 (db 4294967296 (f))))
  (fun⟨wr,H,n1,c1,F,L,o,d1,f⟩=>f)
  (⟨v5,_,_,_,_,_,_,_,_⟩:a7×Option aG×Nat×Nat×Nat×Option aG×Nat×Nat×Nat) ⟨q,(by omega),(by omega),rfl,(M.ext e6),V⟩ G ⟨rfl,rfl,Fo⟩ ?_
 rintro⟨wr,H,n1,c1,F,L,o,d1,f⟩ ⟨E,_,_,X,U,p⟩
 refine cP [(5,AT H n1 c1),(6,AT L o d1)] wr G ⟨rfl,rfl,Fo⟩ (aH (aH ?_))
 by_cases bc:o>0
 ·have ao:f≠0:=fun e=>by have h:=p.len;rw [e,mO] at h;simp only [List.length_nil] at h;omega
  refine aJ (mv 1 G (pu (v:= v4 o) G (aN G G G true (nT (a:=o) (b:=0) G G) (aA (bB G (b8 (aK (bG (sr (mv 2 G (cl (vs:= [AT H n1 c1,AT L o d1]) E (CI U (by omega) p (by omega) ao) G (by kernel_rfl) fun _ v9 ai ab q=>?_)))))))))))
  obtain⟨_,_,rfl,⟨ah,aj,aq,rfl,_⟩,⟨Y,an,ae,rfl,I⟩⟩:=ai
  refine mv 1 G (pu (v:= AT ah aj aq) G (pu (v:= AT Y an ae) G (mv 2 G (aA (sr (mv 2 G (aA (aJ (mv 2 G (aR (bM (bX (⟨v9,_,_,_,f,_,_,_,F%f⟩:a7×Option aG×Nat×Nat×Nat×Option aG×Nat×Nat×Nat) ⟨q,(by omega),(by have h1:=I.len;have h2:=p.len;have h3:=uL iS (Nat.le_of_lt (gB F (show f>0 by omega)));omega),(by rw [←X,Nat.gcd_comm F f,Nat.gcd_rec f F,Nat.gcd_comm]),(p.ext ab),I⟩ (show F%f<f from gB _ (by omega)) G ⟨rfl,rfl,Fo⟩))))))))))))
 ·obtain rfl:f=0:=(s7 iS).1 (by have h:=p.len;omega)
  rw [Nat.gcd_zero_right] at X
  refine aJ (mv 1 G (pu (v:= v4 o) G (aN G G G false (nU (a:=o) (b:=0) G G) (aA (aV G (cR (cK (cN (cO (aK (sr (mv 1 G (cl (vs:= [AT H n1 c1]) E (xG E.size U) G (by kernel_rfl) fun _ _ Z _ q=>?_)))))))))))))
  obtain⟨aa,W,ag,rfl,ak,am⟩:=Z
  refine mv 1 G (aA (bD (bC [AT aa W ag] G ⟨rfl,Fo⟩ ?_)))
  exact⟨_,rfl,(by rw [←X];exact⟨_,_,_,rfl,ak,am⟩),q⟩
end Go.Proofs.YtkkabncicmhjfaaGreat
