/-
  Bytes laid and read back: headers, ring sectors, anchors. No program in sight.
-/
import Derived.Test.YtplppdbdfhkljaaGreatA06
import Derived.Test.YtplppdbdfhkljaaGreatA07
set_option maxRecDepth 100000
set_option maxHeartbeats 16000000
section
namespace Go.Proofs.YtplppdbdfhkljaaGreat
open Go.RowKit
theorem over_get{l x:List UInt8}{a:Nat}(h:a+x.length≤l.length)(i:Nat):(over l a x)[i]?=if a≤i∧i<a+x.length then x[i-a]? else l[i]?:=by
 have ht:(l.take a).length=a:=by rw[List.length_take];omega
 unfold over
 by_cases h1:i<a
 ·rw[List.getElem?_append_left (by omega),if_neg (by omega),List.getElem?_take_of_lt h1]
 ·rw[List.getElem?_append_right (by omega),ht]
  by_cases h2:i<a+x.length
  ·rw[List.getElem?_append_left (by omega),if_pos ⟨by omega,h2⟩]
  ·rw[List.getElem?_append_right (by omega),if_neg (by omega),List.getElem?_drop]
   congr 1;omega
theorem put_over(b:List UInt8)(a n v:Nat):put b a n v=over b a (be n v):=by unfold put over;rw[be_length]
theorem put_get{b:List UInt8}{a n:Nat}(v:Nat)(h:a+n≤b.length)(i:Nat):(put b a n v)[i]?=if a≤i∧i<a+n then(be n v)[i-a]? else b[i]?:=by
 rw[put_over,over_get (by rw[be_length];exact h),be_length]
theorem cut_congr{b c:List UInt8}{a n:Nat}(h:∀i,a≤i→i<a+n→b[i]?=c[i]?):(b.drop a).take n=(c.drop a).take n:=by
 apply List.ext_getElem?
 intro i
 rw[List.getElem?_take,List.getElem?_take]
 split
 ·rw[List.getElem?_drop,List.getElem?_drop];exact h _ (by omega) (by omega)
 ·rfl
theorem num_congr{b c:List UInt8}{a n:Nat}(h:∀i,a≤i→i<a+n→b[i]?=c[i]?):num b a n=num c a n:=by
 unfold num;rw[cut_congr h]
theorem be_succ(n v:Nat):be (n+1) v=be n (v / 256) ++ [UInt8.ofNat v]:=by
 unfold be
 rw[List.range_succ,List.map_append]
 congr 1
 ·apply List.map_congr_left
  intro i hi
  have hi':i<n:=by simpa using hi
  congr 1
  rw[Nat.div_div_eq_div_mul]
  congr 1
  rw[show n+1-1-i=(n-1-i)+1 from by omega,Nat.pow_succ,Nat.mul_comm]
 ·simp
theorem beN_be:∀n v:Nat,beN (be n v)=v % 256 ^ n
 | 0,v=>by simp[be,beN,Nat.mod_one]
 | n+1,v=>by
  rw[be_succ,beN_snoc,beN_be n,Nat.pow_succ,Nat.mul_comm (256 ^ n) 256,Nat.mod_mul]
  have:(UInt8.ofNat v).toNat=v % 256:=by simp
  rw[this];omega
theorem num_over{l x:List UInt8}{a:Nat}(h:a+x.length≤l.length):((over l a x).drop a).take x.length=x:=by
 apply List.ext_getElem?
 intro i
 rw[List.getElem?_take]
 split
 ·rw[List.getElem?_drop,over_get h,if_pos (by omega)];congr 1;omega
 ·rw[List.getElem?_eq_none (by omega)]
theorem num_put{b:List UInt8}{a n v:Nat}(h:a+n≤b.length)(hv:v<256 ^ n):num (put b a n v) a n=v:=by
 have:=num_over (l:=b) (x:=be n v) (a:=a) (by rw[be_length];exact h)
 rw[be_length,← put_over] at this
 unfold num
 rw[this,beN_be,Nat.mod_eq_of_lt hv]
theorem num_put_ne{b:List UInt8}{a n a' n':Nat}(v:Nat)(h:a+n≤b.length)(hd:a'+n'≤a∨a+n≤a'):num (put b a n v) a' n'=num b a' n':=
 num_congr fun i h1 h2=>by rw[put_get v h,if_neg (by omega)]
theorem num_tagged{t:Int}(h0:0≤t)(h1:t<18446744073709551616):numI (tagged t) 0 8=t∧numI (tagged t) 504 8=t:=by
 have e:(256:Nat) ^ 8=18446744073709551616:=by decide
 have hl:(put zsec 0 8 t.toNat).length=512:=put_len zsec_length (by omega)
 unfold numI tagged
 rw[num_put_ne _ (by omega) (by omega),num_put (by rw[zsec_length];omega) (by omega),num_put (by omega) (by omega)]
 omega
theorem tagOf_of{b:Sec}{t:Int}(h0:numI b 0 8=t)(h1:numI b 504 8=t):tagOf b=t:=by unfold tagOf;rw[h0,h1,if_pos rfl]
structure Anc.Fit(a:Anc):Prop where
 n0:0≤a.number
 n1:a.number<18446744073709551616
 t0:0≤a.turn
 t1:a.turn<18446744073709551616
 p:a.place<4294967296
 r:a.ring<4294967296
theorem Anc.sector_ends{a:Anc}(h:a.Fit):numI a.sector 0 8=a.number∧numI a.sector 504 8=a.number:=by
 have l1:(tagged a.number).length=512:=tagged_length _
 have l2:(put (tagged a.number) 8 8 a.turn.toNat).length=512:=put_len l1 (by omega)
 have l3:(put (put (tagged a.number) 8 8 a.turn.toNat) 16 4 a.place).length=512:=put_len l2 (by omega)
 have:=num_tagged h.n0 h.n1
 unfold numI at this ⊢
 unfold Anc.sector
 rw[num_put_ne _ (by omega) (by omega),num_put_ne _ (by omega) (by omega),num_put_ne _ (by omega) (by omega),num_put_ne _ (by omega) (by omega),num_put_ne _ (by omega) (by omega),num_put_ne _ (by omega) (by omega)]
 exact this
theorem ancOf_sector{a:Anc}(h:a.Fit):ancOf a.sector=a:=by
 have e:(256:Nat) ^ 8=18446744073709551616:=by decide
 have e4:(256:Nat) ^ 4=4294967296:=by decide
 have l1:(tagged a.number).length=512:=tagged_length _
 have l2:(put (tagged a.number) 8 8 a.turn.toNat).length=512:=put_len l1 (by omega)
 have l3:(put (put (tagged a.number) 8 8 a.turn.toNat) 16 4 a.place).length=512:=put_len l2 (by omega)
 obtain⟨s0,s1⟩:=Anc.sector_ends h
 have t1:tagOf a.sector=a.number:=tagOf_of s0 s1
 have t2:numI a.sector 8 8=a.turn:=by
  unfold numI Anc.sector
  rw[num_put_ne _ (by omega) (by omega),num_put_ne _ (by omega) (by omega),num_put (by omega) (by have:=h.t1;have:=h.t0;omega)]
  have:=h.t0;omega
 have t3:num a.sector 16 4=a.place:=by
  unfold Anc.sector
  rw[num_put_ne _ (by omega) (by omega),num_put (by omega) (by have:=h.p;omega)]
 have t4:num a.sector 20 4=a.ring:=by
  unfold Anc.sector
  rw[num_put (by omega) (by have:=h.r;omega)]
 unfold ancOf;rw[t1,t2,t3,t4]
def PutsOk(l:List Put):Prop:=l.length≤40∧∀p∈l,0≤p.1∧p.1<4294967296∧p.2.length=512
theorem hdrK_spec{t:Int}{l:List Put}(hl:PutsOk l):∀k,k≤l.length→(hdrK t l k).length=512∧(∀i,i<16∨496≤i→(hdrK t l k)[i]?=(hdr0 t l.length)[i]?)∧
   ∀m,(h:m<l.length)→m<k→num (hdrK t l k) (16+12*m) 4=l[m].1.toNat∧((hdrK t l k).drop (20+12*m)).take 8=l[m].2.take 8
 | 0,_=>⟨put_len (tagged_length _) (by omega),fun _ _=>rfl,fun m _ h=>by omega⟩
 | k+1,hk=>by
  obtain⟨ih1,ih2,ih3⟩:=hdrK_spec (t:=t) hl k (by omega)
  have e4:(256:Nat) ^ 4=4294967296:=by decide
  have hkl:k<l.length:=by omega
  have hl40:=hl.1
  obtain⟨hp0,hp1,hp2⟩:=hl.2 _ (List.getElem_mem hkl)
  have hgd:l.getD k (0,[])=l[k]:=by rw[List.getD_eq_getElem?_getD,List.getElem?_eq_getElem hkl];rfl
  have l1:(put (hdrK t l k) (16+12*k) 4 l[k].1.toNat).length=512:=put_len ih1 (by omega)
  have l8:(l[k].2.take 8).length=8:=by rw[List.length_take];omega
  have hget:∀i,(hdrK t l (k+1))[i]?=if 20+12*k≤i∧i<28+12*k then(l[k].2.take 8)[i-(20+12*k)]? else if 16+12*k≤i∧i<20+12*k then(be 4 l[k].1.toNat)[i-(16+12*k)]? else(hdrK t l k)[i]?:=by
   intro i
   show(hdrS (hdrK t l k) k (l.getD k (0,[])))[i]?=_
   rw[hgd];unfold hdrS
   rw[over_get (by omega),l8,put_get _ (by omega)]
   rw[show 20+12*k+8=28+12*k from by omega,show 16+12*k+4=20+12*k from by omega]
  refine⟨?_,?_,?_⟩
  ·show(hdrS (hdrK t l k) k (l.getD k (0,[]))).length=512
   rw[hgd];unfold hdrS;rw[over_length (by omega)];exact l1
  ·intro i hi
   rw[hget,if_neg (by omega),if_neg (by omega)];exact ih2 i hi
  ·intro m hm hmk
   by_cases e:m=k
   ·subst e
    refine⟨?_,?_⟩
    ·have:num (hdrK t l (m+1)) (16+12*m) 4=num (put (hdrK t l m) (16+12*m) 4 l[m].1.toNat) (16+12*m) 4:=
      num_congr fun i h1 h2=>by rw[hget,if_neg (by omega),if_pos (by omega),put_get _ (by omega),if_pos (by omega)]
     rw[this,num_put (by omega) (by omega)]
    ·apply List.ext_getElem?
     intro i
     rw[List.getElem?_take]
     split
     ·rw[List.getElem?_drop,hget,if_pos (by omega)];congr 1;omega
     ·rw[List.getElem?_eq_none (by omega)]
   ·obtain⟨a1,a2⟩:=ih3 m hm (by omega)
    refine⟨?_,?_⟩
    ·rw[← a1];exact num_congr fun i h1 h2=>by rw[hget,if_neg (by omega),if_neg (by omega)]
    ·rw[← a2];exact cut_congr fun i h1 h2=>by rw[hget,if_neg (by omega),if_neg (by omega)]
theorem hdr_length{t:Int}{l:List Put}(hl:PutsOk l):(hdr t l).length=512:=(hdrK_spec hl _ (Nat.le_refl _)).1
theorem hdr_ends{t:Int}{l:List Put}(hl:PutsOk l)(h0:0≤t)(h1:t<4611686018427389000):numI (hdr t l) 0 8=2*t+1∧numI (hdr t l) 504 8=2*t+1∧num (hdr t l) 8 2=l.length:=by
 obtain⟨a1,a2,_⟩:=hdrK_spec (t:=t) hl _ (Nat.le_refl _)
 have e2:(256:Nat) ^ 2=65536:=by decide
 have tl:(tagged (2*t+1)).length=512:=tagged_length _
 have hl40:=hl.1
 have ht:=num_tagged (t:=2*t+1) (by omega) (by omega)
 unfold numI at ht ⊢
 refine⟨?_,?_,?_⟩
 ·rw[show num (hdr t l) 0 8=num (tagged (2*t+1)) 0 8 from num_congr fun i _ h2=>by
   show(hdrK t l l.length)[i]?=_
   rw[a2 i (by omega)];unfold hdr0;rw[put_get _ (by omega),if_neg (by omega)]]
  exact ht.1
 ·rw[show num (hdr t l) 504 8=num (tagged (2*t+1)) 504 8 from num_congr fun i _ h2=>by
   show(hdrK t l l.length)[i]?=_
   rw[a2 i (by omega)];unfold hdr0;rw[put_get _ (by omega),if_neg (by omega)]]
  exact ht.2
 ·rw[show num (hdr t l) 8 2=num (hdr0 t l.length) 8 2 from num_congr fun i _ h2=>a2 i (by omega)]
  unfold hdr0
  exact num_put (by omega) (by omega)
theorem hdr_put{t:Int}{l:List Put}(hl:PutsOk l){k:Nat}(hk:k<l.length):num (hdr t l) (16+12*k) 4=l[k].1.toNat∧((hdr t l).drop (20+12*k)).take 8=l[k].2.take 8:=
 (hdrK_spec (t:=t) hl _ (Nat.le_refl _)).2.2 k hk hk
theorem ringSec_length{t:Int}{b:Sec}(h:b.length=512):(ringSec t b).length=512:=put_len h (by omega)
theorem ringSec_num{t:Int}{b:Sec}(h:b.length=512)(h0:0≤t)(h1:t<4611686018427389000):numI (ringSec t b) 0 8=2*t:=by
 have e:(256:Nat) ^ 8=18446744073709551616:=by decide
 unfold numI ringSec
 rw[num_put (by omega) (by omega)];omega
theorem ringSec_back{t:Int}{b:Sec}(h:b.length=512):over (ringSec t b) 0 (b.take 8)=b:=by
 have l8:(b.take 8).length=8:=by rw[List.length_take];omega
 have lr:=ringSec_length (t:=t) h
 apply List.ext_getElem?
 intro i
 rw[over_get (by omega),l8]
 split
 ·rw[List.getElem?_take_of_lt (by omega)];congr 1
 ·unfold ringSec;rw[put_get _ (by omega),if_neg (by omega)]
theorem fitsL_seen{homes:Nat}:∀{l:List Put} {seen:List Int},fitsL homes seen l=0→∀k,(h:k<l.length)→l[k].1∉((l.take k).map (·.1)).reverse++seen
 | [],_,_,k,h=>by simp at h
 | (i,b) :: l,seen,h,k,hk=>by
  unfold fitsL at h
  split at h
  ·omega
  ·rename_i h1
   split at h
   ·omega
   ·cases k with
    | zero=>simp at h1 ⊢;exact h1.2.2
    | succ k=>
     have:=fitsL_seen h k (by simpa using hk)
     simp at this ⊢
     exact this
theorem fits_parts{J:Jn}{n:Nat}{l:List Put}(h:J.fits n l=0):l.length≤40∧l.length<J.last.ring∧(∀p∈l,0≤p.1∧p.1<(J.homes n:Int)∧p.2.length=512)∧∀k,(h:k<l.length)→l[k].1∉seenK l k:=by
 have h3:=fits_in h
 unfold Jn.fits at h
 split at h
 ·omega
 ·rename_i q
  split at h
  ·omega
  ·rename_i q2
   refine⟨by omega,by omega,h3,fun k hk=>?_⟩
   have:=fitsL_seen (by simpa using q) k hk
   simpa [seenK] using this
theorem stands_commit{J:Jn}{D:Dk}{l:List Put}(hf:J.fits D.n l=0)(h0:l≠[])(hn:D.n≤4096)(ht0:0≤J.turn)(ht1:J.turn<4611686018427389000)
  (hh:D.now (J.at J.place)=hdr J.turn l) (hb:∀k,(h:k<l.length)→D.now (J.at (J.place+1+k))=ringSec J.turn l[k].2):J.stands D=l:=by
 obtain⟨f1,f2,f3,f4⟩:=fits_parts hf
 have hhom:J.homes D.n≤4096:=by unfold Jn.homes;omega
 have hok:PutsOk l:=⟨f1,fun p hp=>by obtain⟨a,b,c⟩:=f3 p hp;exact⟨a,by omega,c⟩⟩
 obtain⟨e1,e2,e3⟩:=hdr_ends hok ht0 ht1
 have hd:J.hd D=hdr J.turn l:=hh
 have hN:J.stN D=l.length:=by unfold Jn.stN;rw[hd];exact e3
 have hpos:0<l.length:=List.length_pos_iff.2 h0
 have hput:∀k,(h:k<l.length)→J.stPut D k=l[k]:=by
  intro k hk
  obtain⟨p0,p1,p2⟩:=f3 _ (List.getElem_mem hk)
  obtain⟨a1,a2⟩:=hdr_put (t:=J.turn) hok hk
  unfold Jn.stPut
  have hbd:J.bd D k=ringSec J.turn l[k].2:=hb k hk
  rw[hd,hbd,a2,ringSec_back p2]
  unfold numI;rw[a1]
  ext
  ·show((l[k].1.toNat:Nat):Int)=l[k].1
   omega
  ·rfl
 have hL:J.stL D l.length=l:=by
  apply List.ext_getElem
  ·rw[Jn.stL_length]
  ·intro k h1 h2
   rw[Jn.stL_get];exact hput k h2
 have hhead:J.stHead D:=⟨by rw[hd];exact tagOf_of e1 e2,by omega,by omega,by omega⟩
 rw[Jn.stands_yes hhead,hN,hL]
 intro k hk
 rw[hN] at hk
 obtain⟨p0,p1,p2⟩:=f3 _ (List.getElem_mem hk)
 have hfst:numI (J.hd D) (16+12*k) 4=l[k].1:=by
  have:=hput k hk
  unfold Jn.stPut at this
  exact congrArg Prod.fst this
 refine⟨?_,?_,?_⟩
 ·have hbd:J.bd D k=ringSec J.turn l[k].2:=hb k hk
  rw[hbd];exact ringSec_num p2 ht0 ht1
 ·rw[hfst];exact p1
 ·rw[hfst,hN,hL];exact f4 k hk
end Go.Proofs.YtplppdbdfhkljaaGreat
namespace Go.Proofs.YtplppdbdfhkljaaGreat
open Go.RowKit
structure Dk.Calm(D:Dk):Prop where
 ok:D.Ok
 off:D.off=false
 wait:D.wait=fun _=>none
 way:D.way=none
theorem Dk.Calm.now{D:Dk}(h:D.Calm)(i:Nat):D.now i=D.last i:=by unfold Dk.now;rw[h.wait];rfl
theorem Dk.step_way(D:Dk):D.step.way=D.way:=by unfold Dk.step;split<;>rfl
theorem Dk.step_lives(D:Dk):D.step.lives=D.lives:=by unfold Dk.step;split<;>rfl
theorem Dk.step_arm(D:Dk):D.armed = -1→D.step.armed = -1:=by
 intro h;unfold Dk.step;rw[if_neg (by omega)];exact h
structure Pend(D0:Dk)(P:Nat→Sec→Prop)(D:Dk):Prop where
 ok:D.Ok
 n:D.n=D0.n
 last:D.last=D0.last
 lives:D.lives=D0.lives
 off:D.off=false
 way:D.way=none
 wait:∀i s,D.wait i=some s→P i s
 arm:D0.armed = -1→D.armed = -1
structure Fell(D0:Dk)(P:Nat→Sec→Prop)(D:Dk):Prop where
 ok:D.Ok
 n:D.n=D0.n
 last:D.last=D0.last
 lives:D.lives=D0.lives
 off:D.off=true
 wait:∀i s,D.wait i=some s→P i s
 way:∀i,D.way=some i→D.wait i=none∧∃b k,P i b∧b.length=512∧D.front=b.take k
 arm:D0.armed≠-1
theorem Pend.start{D:Dk}(h:D.Calm)(P:Nat→Sec→Prop):Pend D P D:=⟨h.ok,rfl,rfl,rfl,h.off,h.way,fun i s hs=>by rw[h.wait] at hs;simp at hs,id⟩
theorem Pend.write{D0 D:Dk}{P:Nat→Sec→Prop}(h:Pend D0 P D){i:Nat}(hi:i<D0.n){b:Sec}(hb:b.length=512)(hP:P i b)(hw:D.wait i=none) :
  ((D.write (i:Int) b).2=0∧Pend D0 P (D.write (i:Int) b).1∧(D.write (i:Int) b).1.wait=fun j=>if j=i then some b else D.wait j)∨((D.write (i:Int) b).2=8∧Fell D0 P (D.write (i:Int) b).1):=by
 have hin:i<D.n:=by rw[h.n];exact hi
 have hm:D.may (i:Int)=0:=Dk.may_of h.off (by omega) (by omega)
 have hwr:D.write (i:Int) b=if D.armed=0 then({ D with off:=true,way:=some i,front:=b.take D.part },8) else({ D.step with wait:=fun j=>if j=i then some b else D.wait j,writes:=wrap64 (D.writes+1) },0):=by
  unfold Dk.write;rw[if_neg (by simpa using hm),if_neg (by simpa using hb)];simp
 rw[hwr]
 by_cases ha:D.armed=0
 ·rw[if_pos ha]
  refine .inr ⟨rfl,⟨h.ok.n0,h.ok.n1,h.ok.last,h.ok.wait,h.ok.armed0,h.ok.armed1,h.ok.part,fun j hj=>?_,?_⟩,h.n,h.last,h.lives,rfl,h.wait,fun j hj=>?_,fun q=>?_⟩
  ·cases hj;exact hin
  ·show(b.take D.part).length≤512
   rw[List.length_take];omega
  ·cases hj;exact⟨hw,b,D.part,hP,hb,rfl⟩
  ·have:=h.arm q;omega
 ·rw[if_neg ha]
  have hok:=Dk.step_ok h.ok
  refine .inl ⟨rfl,⟨⟨hok.n0,hok.n1,hok.last,fun j s hs=>?_,hok.armed0,hok.armed1,hok.part,hok.way,hok.front⟩,(Dk.step_n D).trans h.n,(Dk.step_last D).trans h.last,(Dk.step_lives D).trans h.lives,(Dk.step_off D).trans h.off,(Dk.step_way D).trans h.way,fun j s hs=>?_,fun q=>Dk.step_arm D (h.arm q)⟩,rfl⟩
  ·replace hs:(if j=i then some b else D.wait j)=some s:=hs
   show j<D.step.n∧_
   rw[Dk.step_n]
   split at hs
   ·rename_i e;cases hs;exact⟨by omega,hb⟩
   ·exact h.ok.wait j s hs
  ·replace hs:(if j=i then some b else D.wait j)=some s:=hs
   split at hs
   ·rename_i e;cases hs;rw[e];exact hP
   ·exact h.wait j s hs
theorem Pend.flush{D0 D:Dk}{P:Nat→Sec→Prop}(h:Pend D0 P D) :
  (D.flush.2=0∧D.flush.1.Calm∧D.flush.1.last=D.now∧D.flush.1.n=D0.n∧D.flush.1.lives=D0.lives∧(D0.armed = -1→D.flush.1.armed = -1))∨(D.flush.2=8∧Fell D0 P D.flush.1):=by
 unfold Dk.flush
 rw[if_neg (by rw[h.off];decide)]
 by_cases ha:D.armed=0
 ·rw[if_pos ha]
  refine .inr ⟨rfl,⟨h.ok.n0,h.ok.n1,h.ok.last,h.ok.wait,h.ok.armed0,h.ok.armed1,h.ok.part,h.ok.way,h.ok.front⟩,h.n,h.last,h.lives,rfl,h.wait,fun j hj=>?_,fun q=>?_⟩
  ·replace hj:D.way=some j:=hj
   rw[h.way] at hj;simp at hj
  ·have:=h.arm q;omega
 ·rw[if_neg ha]
  have hok:=Dk.step_ok h.ok
  exact .inl ⟨rfl,⟨⟨hok.n0,hok.n1,fun i=>Dk.now_len h.ok i,fun _ _ hs=>by simp at hs,hok.armed0,hok.armed1,hok.part,hok.way,hok.front⟩,(Dk.step_off D).trans h.off,rfl,(Dk.step_way D).trans h.way⟩,rfl,(Dk.step_n D).trans h.n,(Dk.step_lives D).trans h.lives,fun q=>Dk.step_arm D (h.arm q)⟩
def wrL:Dk→List (Nat × Sec)→Dk × Int
 | D,[]=>(D,0)
 | D,x :: ws=>if(D.write (x.1:Int) x.2).2≠0 then D.write (x.1:Int) x.2 else wrL (D.write (x.1:Int) x.2).1 ws
theorem wrL_cons(D:Dk)(x:Nat × Sec)(ws:List (Nat × Sec)):wrL D (x :: ws)=if(D.write (x.1:Int) x.2).2≠0 then D.write (x.1:Int) x.2 else wrL (D.write (x.1:Int) x.2).1 ws:=rfl
theorem Pend.wrL{D0:Dk}{P:Nat→Sec→Prop}:∀(ws:List (Nat × Sec)) {D:Dk},Pend D0 P D→(∀x∈ws,x.1<D0.n∧x.2.length=512∧P x.1 x.2∧D.wait x.1=none)→(ws.map (·.1)).Nodup→
  ((wrL D ws).2=0∧Pend D0 P (wrL D ws).1∧(∀x∈ws,(wrL D ws).1.wait x.1=some x.2)∧∀i,i∉ws.map (·.1)→(wrL D ws).1.wait i=D.wait i)∨((wrL D ws).2=8∧Fell D0 P (wrL D ws).1)
 | [],D,h,_,_=> .inl ⟨rfl,h,by simp,fun _ _=>rfl⟩
 | x :: ws,D,h,hx,hnd=>by
  obtain⟨a1,a2,a3,a4⟩:=hx x (by simp)
  rw[List.map_cons,List.nodup_cons] at hnd
  rw[wrL_cons]
  rcases h.write a1 a2 a3 a4 with⟨e,hp,hw⟩ | ⟨e,hf⟩
  ·rw[if_neg (by rw[e];decide)]
   rcases Pend.wrL ws hp (fun y hy=>by
    obtain⟨b1,b2,b3,b4⟩:=hx y (by simp[hy])
    refine⟨b1,b2,b3,?_⟩
    rw[hw]
    show(if y.1=x.1 then _ else _)=_
    rw[if_neg (fun q=>hnd.1 (by rw[← q];exact List.mem_map_of_mem hy))];exact b4) hnd.2 with⟨e',hp',h1,h2⟩ | ⟨e',hf⟩
   ·refine .inl ⟨e',hp',fun y hy=>?_,fun i hi=>?_⟩
    ·rcases List.mem_cons.1 hy with rfl | hy
     ·rw[h2 _ hnd.1,hw];simp
     ·exact h1 y hy
    ·simp only[List.map_cons,List.mem_cons,not_or] at hi
     rw[h2 i hi.2,hw]
     show(if i=x.1 then _ else _)=_
     rw[if_neg hi.1]
   ·exact .inr ⟨e',hf⟩
  ·rw[if_pos (by rw[e];decide)]
   exact .inr ⟨e,hf⟩
def Torn(old new x:Sec):Prop:=∃k,k≤512∧x=new.take k++old.drop k
theorem Torn.get{old new x:Sec}(h:Torn old new x)(ho:old.length=512)(hn:new.length=512):x.length=512∧∃k,k≤512∧∀i,x[i]?=if i<k then new[i]? else old[i]?:=by
 obtain⟨k,hk,rfl⟩:=h
 have hl:(new.take k).length=k:=by rw[List.length_take];omega
 refine⟨by rw[List.length_append,hl,List.length_drop];omega,k,hk,fun i=>?_⟩
 split
 ·rw[List.getElem?_append_left (by omega),List.getElem?_take_of_lt (by omega)]
 ·rw[List.getElem?_append_right (by omega),List.getElem?_drop,hl];congr 1;omega
theorem Fell.power{D0 D:Dk}{P:Nat→Sec→Prop}(h:Fell D0 P D)(keep:List Bool):(D.power keep).Calm∧(D.power keep).n=D0.n∧(D.power keep).armed = -1∧(D.power keep).lives=wrap64 (D0.lives+1)∧
  ∀i,(D.power keep).last i=D0.last i∨∃b,P i b∧b.length=512∧Torn (D0.last i) b ((D.power keep).last i):=by
 have hk:∀i,D.kept keep i=D.now i∨D.kept keep i=D.last i:=by intro i;unfold Dk.kept;split<;>simp
 have hkl:∀i,(D.kept keep i).length=512:=by
  intro i
  rcases hk i with e | e
  ·rw[e];exact Dk.now_len h.ok i
  ·rw[e];exact h.ok.last i
 have hlast:∀i,(D.power keep).last i=if D.way=some i then D.front++(D.kept keep i).drop D.front.length else D.kept keep i:=fun _=>rfl
 refine⟨⟨⟨h.ok.n0,h.ok.n1,fun i=>?_,fun _ _ hs=>?_,by show -1≤(-1:Int);omega,by show(-1:Int)≤_;omega,h.ok.part,fun _ hs=>?_,by show([]:List UInt8).length≤512;simp⟩,rfl,rfl,rfl⟩,h.n,rfl,by show wrap64 (D.lives+1)=_;rw[h.lives],fun i=>?_⟩
 ·rw[hlast]
  split
  ·have:=h.ok.front
   rw[List.length_append,List.length_drop,hkl];omega
  ·exact hkl i
 ·replace hs:(none:Option Sec)=_:=hs
  simp at hs
 ·replace hs:(none:Option Nat)=_:=hs
  simp at hs
 ·rw[hlast]
  split
  ·rename_i hw
   obtain⟨w0,b,k,hP,hb,hf⟩:=h.way i hw
   have hkl':D.kept keep i=D0.last i:=by
    rcases hk i with e | e
    ·rw[e];unfold Dk.now;rw[w0,h.last];rfl
    ·rw[e,h.last]
   right
   refine⟨b,hP,hb,min k 512,by omega,?_⟩
   rw[hkl',hf,List.length_take,hb]
   congr 1
   by_cases q:k≤512
   ·rw[Nat.min_eq_left q]
   ·rw[Nat.min_eq_right (by omega),List.take_of_length_le (by omega),List.take_of_length_le (by omega)]
  ·rcases hk i with e | e
   ·rw[e]
    unfold Dk.now
    cases hw:D.wait i with
    | none=>left;show(Option.none).getD _=_;rw[h.last];rfl
    | some s=>
     right
     have hs:=(h.ok.wait i s hw).2
     refine⟨s,h.wait i s hw,hs,512,by omega,?_⟩
     have hl0:(D0.last i).length=512:=by rw[← h.last];exact h.ok.last i
     rw[List.take_of_length_le (by omega),List.drop_eq_nil_of_le (by omega)];simp
   ·left;rw[e,h.last]
theorem Dk.Calm.power{D:Dk}(h:D.Calm)(keep:List Bool):(D.power keep).Calm∧(D.power keep).n=D.n∧(D.power keep).armed = -1∧∀i,(D.power keep).last i=D.last i:=by
 have hk:∀i,D.kept keep i=D.last i:=by intro i;unfold Dk.kept;split;exact h.now i;rfl
 have hlast:∀i,(D.power keep).last i=D.last i:=by
  intro i
  show(if D.way=some i then _ else _)=_
  rw[h.way,if_neg (by simp)];exact hk i
 refine⟨⟨⟨h.ok.n0,h.ok.n1,fun i=>?_,fun _ _ hs=>?_,by show -1≤(-1:Int);omega,by show(-1:Int)≤_;omega,h.ok.part,fun _ hs=>?_,by show([]:List UInt8).length≤512;simp⟩,rfl,rfl,rfl⟩,rfl,rfl,hlast⟩
 ·rw[hlast];exact h.ok.last i
 ·replace hs:(none:Option Sec)=_:=hs
  simp at hs
 ·replace hs:(none:Option Nat)=_:=hs
  simp at hs
theorem num_succ{b:List UInt8}{a n:Nat}(h:a+n<b.length):num b a (n+1)=num b a n*256+num b (a+n) 1:=by
 unfold num
 have hl:n<(b.drop a).length:=by rw[List.length_drop];omega
 have e:(b.drop (a+n)).take 1=[(b.drop a)[n]]:=by
  rw[← List.drop_drop,List.drop_eq_getElem_cons hl];rfl
 rw[List.take_succ_eq_append_getElem hl,beN_snoc,e]
 simp[beN]
theorem beN_inj:∀{n:Nat} {a b:List UInt8},a.length=n→b.length=n→beN a=beN b→a=b
 | 0,a,b,ha,hb,_=>by rw[List.length_eq_zero_iff.1 ha,List.length_eq_zero_iff.1 hb]
 | n+1,a,b,ha,hb,h=>by
  have hane:a≠[]:=by intro q;rw[q] at ha;simp at ha
  have hbne:b≠[]:=by intro q;rw[q] at hb;simp at hb
  rw[← List.dropLast_concat_getLast hane,← List.dropLast_concat_getLast hbne] at h ⊢
  rw[beN_snoc,beN_snoc] at h
  have h1:=(a.getLast hane).toNat_lt
  have h2:=(b.getLast hbne).toNat_lt
  have e1:beN a.dropLast=beN b.dropLast:=by omega
  have e2:(a.getLast hane).toNat=(b.getLast hbne).toNat:=by omega
  rw[beN_inj (n:=n) (by rw[List.length_dropLast];omega) (by rw[List.length_dropLast];omega) e1,UInt8.toNat_inj.1 e2]
def Clean(S:Sec)(t:Int):Prop:=num S 7 1 % 2=0∨num S 511 1 % 2=0∨numI S 504 8<2*t
theorem Clean.mono{S:Sec}{t t':Int}(h:Clean S t)(ht:t≤t'):Clean S t':=by
 rcases h with h | h | h
 ·exact .inl h
 ·exact .inr (.inl h)
 ·exact .inr (.inr (by omega))
theorem num_odd{S:Sec}(hl:S.length=512):num S 0 8 % 2=num S 7 1 % 2∧num S 504 8 % 2=num S 511 1 % 2:=by
 have h1:=num_succ (b:=S) (a:=0) (n:=7) (by omega)
 have h2:=num_succ (b:=S) (a:=504) (n:=7) (by omega)
 simp only[Nat.zero_add,Nat.reduceAdd] at h1 h2
 omega
theorem tagOf_ne{b:Sec}(h:tagOf b≠0):numI b 0 8=tagOf b∧numI b 504 8=tagOf b:=by
 unfold tagOf at h ⊢
 split
 ·rename_i e;exact⟨rfl,e.symm⟩
 ·rename_i e;rw[if_neg e] at h;exact absurd rfl h
theorem Clean.tag{S:Sec}{t t':Int}(h:Clean S t)(hl:S.length=512)(_h0:0≤t)(ht:t≤t'):tagOf S≠2*t'+1:=by
 intro e
 obtain⟨e1,e2⟩:=tagOf_ne (b:=S) (by omega)
 obtain⟨o1,o2⟩:=num_odd hl
 unfold numI at e1 e2
 rcases h with h | h | h
 ·omega
 ·omega
 ·unfold numI at h;omega
theorem Clean.torn{old new x:Sec}{t:Int}(h:Clean old t)(hn:num new 7 1 % 2=0)(ht:Torn old new x)(ho:old.length=512)(hl:new.length=512):Clean x t:=by
 obtain⟨_,k,hk,hg⟩:=ht.get ho hl
 by_cases h8:8≤k
 ·left
  rw[show num x 7 1=num new 7 1 from num_congr fun i _ h2=>by rw[hg,if_pos (by omega)]];exact hn
 ·have e1:num x 7 1=num old 7 1∨num x 7 1=num new 7 1:=by
   by_cases h7:k≤7
   ·exact .inl (num_congr fun i h1 _=>by rw[hg,if_neg (by omega)])
   ·omega
  have e2:num x 511 1=num old 511 1:=num_congr fun i h1 _=>by rw[hg,if_neg (by omega)]
  have e3:num x 504 8=num old 504 8:=num_congr fun i h1 _=>by rw[hg,if_neg (by omega)]
  rcases e1 with e1 | e1
  ·unfold Clean numI;rw[e1,e2,e3];exact h
  ·left;rw[e1];exact hn
theorem zsec_get{i:Nat}(h:i<512):zsec[i]?=some 0:=by unfold zsec;rw[List.getElem?_replicate,if_pos h]
theorem zsec_num(a:Nat)(h:a<512):num zsec a 1=0:=by
 have hl:a<zsec.length:=by rw[zsec_length];exact h
 have e:(zsec.drop a).take 1=[zsec[a]]:=by rw[List.drop_eq_getElem_cons hl];rfl
 unfold num;rw[e]
 have:zsec[a]=0:=by
  have:=zsec_get h
  rw[List.getElem?_eq_getElem hl] at this
  exact Option.some.inj this
 rw[this];rfl
theorem Clean.zsec(t:Int):Clean zsec t:=.inl (by rw[zsec_num 7 (by omega)])
theorem ringSec_even{t:Int}{b:Sec}(h:b.length=512)(h0:0≤t)(h1:t<4611686018427389000):num (ringSec t b) 7 1 % 2=0:=by
 have e:=ringSec_num h h0 h1
 have:=(num_odd (ringSec_length (t:=t) h)).1
 unfold numI at e
 omega
theorem Clean.hdrTorn{t:Int}{l:List Put}{x:Sec}(hl:PutsOk l)(h:Torn Go.Proofs.YtplppdbdfhkljaaGreat.zsec (hdr t l) x):x=hdr t l∨Clean x t:=by
 have hh:=hdr_length (t:=t) hl
 obtain⟨hx,k,hk,hg⟩:=h.get zsec_length hh
 by_cases e:k=512
 ·left
  apply List.ext_getElem?
  intro i
  rw[hg]
  split
  ·rfl
  ·rw[List.getElem?_eq_none (by rw[zsec_length];omega),List.getElem?_eq_none (by omega)]
 ·right;right;left
  rw[show num x 511 1=num Go.Proofs.YtplppdbdfhkljaaGreat.zsec 511 1 from num_congr fun i h1 _=>by rw[hg,if_neg (by omega)],zsec_num 511 (by omega)]
theorem Clean.hdr{t:Int}{l:List Put}(hl:PutsOk l)(h0:0≤t)(h1:t<4611686018427389000):Clean (hdr t l) (t+1):=by
 right;right
 rw[(hdr_ends hl h0 h1).2.1];omega
inductive Path (D:Dk):Jn→Jn→Prop
 | refl (J:Jn):Path D J J
 | step {J J':Jn}:J.stands D≠[]→Path D (J.note (J.stands D)) J'→Path D J J'
theorem Path.snoc{D:Dk}{B J:Jn}(h:Path D B J)(hs:J.stands D≠[]):Path D B (J.note (J.stands D)):=by
 induction h with
 | refl J=>exact .step hs (.refl _)
 | step h1 _ ih=>exact .step h1 (ih hs)
theorem Path.scan{D:Dk}{B J:Jn}(h:Path D B J)(hs:J.stands D=[]):Scan D B J:=by
 induction h with
 | refl J=>exact .stop hs
 | step h1 _ ih=>exact .step h1 (ih hs)
theorem Scan.det{D:Dk}{B J J':Jn}(h:Scan D B J)(h':Scan D B J'):J=J':=by
 induction h with
 | stop hs=>
  cases h' with
  | stop _=>rfl
  | step q _=>exact absurd hs q
 | step h1 _ ih=>
  cases h' with
  | stop q=>exact absurd q h1
  | step _ q=>exact ih q
theorem Path.facts{D:Dk}{B J:Jn}(h:Path D B J)(hp:B.place<B.last.ring):J.last=B.last∧J.lives=B.lives∧J.done=B.done∧B.turn≤J.turn∧B.used≤J.used∧J.place=(B.place+(J.used-B.used)) % B.last.ring∧(J.used=B.used→J=B):=by
 induction h with
 | refl J=>exact⟨rfl,rfl,rfl,Int.le_refl _,Nat.le_refl _,by rw[Nat.sub_self,Nat.add_zero,Nat.mod_eq_of_lt hp],fun _=>rfl⟩
 | @step J J' h1 _ ih=>
  obtain⟨a1,a2,a3,a4,a5,a6,a7⟩:=ih (by show(_ % _)<J.last.ring;exact Nat.mod_lt _ (by omega))
  have e5:J.used+(1+(J.stands D).length)≤J'.used:=a5
  refine⟨a1,a2,a3,by have:J.turn+1≤J'.turn:=a4;omega,by omega,?_,fun q=>by omega⟩
  rw[a6]
  show((J.place+1+(J.stands D).length) % J.last.ring+(J'.used-(J.used+(1+(J.stands D).length)))) % J.last.ring=_
  rw[Nat.mod_add_mod]
  congr 1;omega
theorem Jn.stands_congr{J:Jn}{D D':Dk}(h:J.stands D≠[])(hn:D'.n=D.n)(hs:∀k,k<1+(J.stands D).length→D'.now (J.at (J.place+k))=D.now (J.at (J.place+k))):J.stands D'=J.stands D:=by
 obtain⟨e,hg⟩:=Jn.stands_eq h
 have hlen:(J.stands D).length=J.stN D:=by rw[e,Jn.stL_length]
 have hhd:J.hd D'=J.hd D:=hs 0 (by omega)
 have hN:J.stN D'=J.stN D:=by unfold Jn.stN;rw[hhd]
 have hbd:∀k,k<J.stN D→J.bd D' k=J.bd D k:=fun k hk=>by
  have:=hs (1+k) (by omega)
  unfold Jn.bd
  rw[show J.place+1+k=J.place+(1+k) from by omega];exact this
 have hL:∀m,m≤J.stN D→J.stL D' m=J.stL D m:=fun m hm=>by
  unfold Jn.stL
  apply List.map_congr_left
  intro k hk
  have hk':k<m:=by simpa using hk
  unfold Jn.stPut
  rw[hhd,hbd k (by omega)]
 have hh:=Jn.stands_head h
 rw[Jn.stands_yes (D:=D') (by unfold Jn.stHead;rw[hhd,hN];exact hh),hN,hL _ (Nat.le_refl _),e]
 intro k hk
 rw[hN] at hk
 unfold Jn.stGood
 rw[hbd k hk,hhd,hn,hN,hL _ (Nat.le_refl _)]
 exact hg k hk
theorem Path.frame{D D':Dk}{B J:Jn}(h:Path D B J)(hn:D'.n=D.n):B.place<B.last.ring→(∀k,k<J.used-B.used→D'.now (B.at (B.place+k))=D.now (B.at (B.place+k)))→Path D' B J:=by
 induction h with
 | refl J=>intro _ _;exact .refl _
 | @step J J' h1 hp ih=>
  intro hpl hs
  have hf:=hp.facts (by show(_ % _)<J.last.ring;exact Nat.mod_lt _ (by omega))
  have hus:J.used+(1+(J.stands D).length)≤J'.used:=hf.2.2.2.2.1
  have hst:=Jn.stands_congr h1 hn (fun k hk=>hs k (by omega))
  refine .step (by rw[hst];exact h1) ?_
  rw[hst]
  refine ih (by show(_ % _)<J.last.ring;exact Nat.mod_lt _ (by omega)) (fun k hk=>?_)
  have hk':k<J'.used-(J.used+(1+(J.stands D).length)):=hk
  have e:(J.note (J.stands D)).at ((J.note (J.stands D)).place+k)=J.at (J.place+(1+(J.stands D).length+k)):=by
   show 2+((J.place+1+(J.stands D).length) % J.last.ring+k) % J.last.ring=2+_ % J.last.ring
   rw[Nat.mod_add_mod];congr 2;omega
  rw[e]
  exact hs _ (by omega)
def Jn.anew(J:Jn)(D:Dk):Jn:={ J with lives:=D.lives,done:=false }
theorem Path.anew{D D':Dk}{B J:Jn}(h:Path D B J):Path D (B.anew D') (J.anew D'):=by
 induction h with
 | refl J=>exact .refl _
 | step h1 _ ih=>exact .step h1 ih
theorem Path.any{D:Dk}{B J:Jn}(h:Path D B J):J=B∨∃i,(J.away i).isSome=true:=by
 have key:∀{B J:Jn},Path D B J→(∃i,(B.away i).isSome=true)→∃i,(J.away i).isSome=true:=by
  have mono:∀(l:List Put) (aw:Nat→Option Sec) (i:Nat),(aw i).isSome=true→(awayL aw l i).isSome=true:=by
   intro l
   induction l with
   | nil=>intro aw i h;exact h
   | cons p l ih=>
    intro aw i h
    show(awayL (fun i=>if i=p.1.toNat then some p.2 else aw i) l i).isSome=true
    apply ih
    show(if _ then _ else _:Option Sec).isSome=true
    split
    ·rfl
    ·exact h
  intro B J h
  induction h with
  | refl J=>exact id
  | step _ _ ih=>intro ⟨i,hi⟩;exact ih ⟨i,mono _ _ _ hi⟩
 cases h with
 | refl=>exact .inl rfl
 | step h1 h2=>
  right
  refine key h2 ?_
  have first:∀(l:List Put) (aw:Nat→Option Sec),l≠[]→∃i,(awayL aw l i).isSome=true:=by
   intro l
   induction l with
   | nil=>intro _ h;exact absurd rfl h
   | cons p l ih=>
    intro aw _
    by_cases hl:l=[]
    ·subst hl
     refine⟨p.1.toNat,?_⟩
     show(if _ then _ else _:Option Sec).isSome=true
     rw[if_pos rfl];rfl
    ·exact ih (fun i=>if i=p.1.toNat then some p.2 else aw i) hl
  exact first _ _ h1
end Go.Proofs.YtplppdbdfhkljaaGreat
namespace Go.Proofs.YtplppdbdfhkljaaGreat
open Go.RowKit
def Jn.base(J:Jn):Jn:={ J with turn:=J.last.turn,place:=J.last.place,used:=0,away:=fun _=>none }
def Jn.slot(J:Jn):Nat:=((J.last.number+1) % 2).toNat
def Jn.cur(J:Jn):Nat:=(J.last.number % 2).toNat
theorem Jn.slot_ne(J:Jn):J.slot≠J.cur∧J.slot<2∧J.cur<2:=by unfold Jn.slot Jn.cur;omega
def Jn.Small(J:Jn):Prop:=J.last.number<4611686018427387000∧J.turn<4611686018427387000
structure Held(D:Dk)(J:Jn):Prop where
 calm:D.Calm
 jok:J.Ok D.n
 lives:J.lives=D.lives
 done:J.done=false
 anc:D.last J.cur=J.last.sector
 oth:numI (D.last J.slot) 504 8<J.last.number∨(J.used≠0∧(D.last J.slot).take 504=J.next.sector.take 504∧numI (D.last J.slot) 504 8≠J.last.number+1)
 path:Path D J.base J
 clean:∀q,q<J.last.ring→Clean (D.last (2+q)) J.turn
 used:J.used≤J.last.ring
structure Live(D:Dk)(J:Jn):Prop where
 held:Held D J
 low:numI (D.last J.slot) 504 8<J.last.number
theorem Jn.at_lt{J:Jn}{n:Nat}(h:J.Ok n)(p:Nat):2≤J.at p∧J.at p<2+J.last.ring∧J.at p<n:=by
 have:=h.ring0
 have hm:p % J.last.ring<J.last.ring:=Nat.mod_lt _ (by omega)
 have:=h.fits
 unfold Jn.at;omega
theorem mod_ne{x d r:Nat}(h0:0<d)(h1:d<r):(x+d) % r≠x % r:=by
 intro e
 have:=Nat.sub_mod_eq_zero_of_mod_eq e
 rw[Nat.add_sub_cancel_left,Nat.mod_eq_of_lt h1] at this
 omega
theorem mod_ne'{x a b r:Nat}(h0:a<b)(h1:b<a+r):(x+a) % r≠(x+b) % r:=by
 have:=mod_ne (x:=x+a) (d:=b-a) (r:=r) (by omega) (by omega)
 rw[show x+a+(b-a)=x+b from by omega] at this
 exact Ne.symm this
theorem Held.facts{D:Dk}{J:Jn}(h:Held D J):J.last.turn≤J.turn∧J.place=(J.last.place+J.used) % J.last.ring∧(J.used=0→J=J.base):=by
 obtain⟨_,_,_,a4,_,a6,a7⟩:=h.path.facts h.jok.lplace
 exact⟨a4,a6,a7⟩
theorem Held.fit{D:Dk}{J:Jn}(h:Held D J)(hs:J.Small):J.last.Fit∧J.next.Fit:=by
 have:=h.jok.num0
 have:=h.jok.lturn0
 have:=h.jok.turn0
 have:=h.jok.lplace
 have:=h.jok.place
 have:=h.jok.ring1
 have:=h.facts.1
 have h1:=hs.1
 have h2:=hs.2
 exact⟨⟨by omega,by omega,by omega,by omega,by omega,by omega⟩,⟨by show 0≤J.last.number+1;omega,by show J.last.number+1<_;omega,by show 0≤J.turn;omega,by show J.turn<_;omega,by show J.place<_;omega,by show J.last.ring<_;omega⟩⟩
theorem Held.okB{D:Dk}{J:Jn}(h:Held D J)(hs:J.Small):J.last.okB D.n=true:=by
 have:=h.jok.num0
 have:=h.jok.lturn0
 have:=h.jok.lplace
 have:=h.jok.ring0
 have:=h.jok.ring1
 have:=h.jok.fits
 have:=h.facts.1
 have h2:=hs.2
 unfold Anc.okB
 simp only[Bool.and_eq_true,decide_eq_true_eq,bne_iff_ne]
 exact⟨⟨⟨by omega,by omega⟩,by omega⟩,⟨⟨by omega,by omega⟩,by omega⟩,by omega⟩
theorem num_take{b:List UInt8}{a n m:Nat}(h:a+n≤m):num (b.take m) a n=num b a n:=num_congr fun i _ h2=>List.getElem?_take_of_lt (by omega)
theorem Held.other{D:Dk}{J:Jn}(h:Held D J)(hs:J.Small):tagOf (D.last J.slot)<J.last.number:=by
 have h0:=h.jok.num0
 by_cases e:tagOf (D.last J.slot)=0
 ·omega
 ·obtain⟨e1,e2⟩:=tagOf_ne e
  rcases h.oth with q | ⟨_,q1,q2⟩
  ·omega
  ·exfalso
   apply q2
   rw[e2,← e1]
   unfold numI
   rw[← num_take (b:=D.last J.slot) (m:=504) (by omega),q1,num_take (by omega)]
   exact(Anc.sector_ends (h.fit hs).2).1
theorem Held.anchor{D:Dk}{J:Jn}(h:Held D J)(hs:J.Small):D.anc=J.last:=by
 have hc:ancOf (D.now J.cur)=J.last:=by rw[h.calm.now,h.anc];exact ancOf_sector (h.fit hs).1
 have hok:=h.okB hs
 have h0:=h.jok.num0
 have ho:¬(J.last.number<(ancOf (D.now J.slot)).number):=by
  rw[h.calm.now]
  have:=h.other hs
  show ¬(J.last.number<tagOf (D.last J.slot))
  omega
 have ho2:(ancOf (D.now J.slot)).number<J.last.number:=by
  rw[h.calm.now];exact h.other hs
 show D.ancStep (D.ancStep ⟨0,0,0,0⟩ 0) 1=J.last
 have hcases:(J.cur=0∧J.slot=1)∨(J.cur=1∧J.slot=0):=by unfold Jn.cur Jn.slot;omega
 rcases hcases with⟨e1,e2⟩ | ⟨e1,e2⟩
 ·rw[e1] at hc
  rw[e2] at ho
  have s0:D.ancStep ⟨0,0,0,0⟩ 0=J.last:=by
   unfold Dk.ancStep;rw[hc,if_pos ⟨hok,by show(0:Int)<_;omega⟩]
  rw[s0];unfold Dk.ancStep;rw[if_neg (fun q=>ho q.2)]
 ·rw[e1] at hc
  rw[e2] at ho2
  have s0:(D.ancStep ⟨0,0,0,0⟩ 0).number<J.last.number:=by
   unfold Dk.ancStep;split
   ·exact ho2
   ·show(0:Int)<_;omega
  unfold Dk.ancStep at s0 ⊢
  rw[hc,if_pos ⟨hok,s0⟩]
theorem Held.boot{D:Dk}{J:Jn}(h:Held D J)(hs:J.Small):D.boot=J.base:=by
 unfold Dk.boot Jn.base
 rw[h.anchor hs,← h.lives,← h.done]
theorem Held.stop{D:Dk}{J:Jn}(h:Held D J):J.stands D=[]:=by
 apply Jn.stands_no
 intro q
 have hr:=Jn.at_lt h.jok J.place
 have ht:=h.jok.turn0
 have hc:=h.clean (J.at J.place-2) (by omega)
 rw[show 2+(J.at J.place-2)=J.at J.place from by omega] at hc
 refine hc.tag (h.calm.ok.last _) (by omega) (Int.le_refl _) ?_
 rw[← h.calm.now];exact q.1
theorem Held.path'{D D':Dk}{J:Jn}(h:Held D J)(hc:D'.Calm)(hn:D'.n=D.n)(hr:∀k,k<J.used→D'.last (J.at (J.last.place+k))=D.last (J.at (J.last.place+k))):Path D' (J.anew D').base (J.anew D'):=by
 have:=(h.path.frame (D':=D') hn h.jok.lplace (fun k hk=>by rw[hc.now,h.calm.now];exact hr k hk)).anew (D':=D')
 exact this
theorem Jn.Ok.anew{J:Jn}{n n':Nat}(h:J.Ok n)(e:n'=n)(D:Dk):(J.anew D).Ok n':=by
 subst e
 exact⟨h.ring0,h.ring1,h.fits,h.lplace,h.place,h.num0,h.num1,h.lturn0,h.turn0,h.turn1,h.used,h.away⟩
theorem Held.stay{D D':Dk}{J:Jn}(h:Held D J)(hc:D'.Calm)(hn:D'.n=D.n)(ha:D'.last J.cur=D.last J.cur)
  (ho:numI (D'.last J.slot) 504 8<J.last.number∨(J.used≠0∧(D'.last J.slot).take 504=J.next.sector.take 504∧numI (D'.last J.slot) 504 8≠J.last.number+1))
  (hr:∀k,k<J.used→D'.last (J.at (J.last.place+k))=D.last (J.at (J.last.place+k))) (hcl:∀q,q<J.last.ring→Clean (D'.last (2+q)) J.turn):Held D' (J.anew D'):=
 ⟨hc,h.jok.anew hn D',rfl,rfl,ha.trans h.anc,ho,h.path' hc hn hr,hcl,h.used⟩
theorem Held.settledOk{D:Dk}{J:Jn}(h:Held D J)(hs:J.Small):J.settled.Ok D.n:=by
 have:=hs.1
 have:=h.jok.num0
 exact⟨h.jok.ring0,h.jok.ring1,h.jok.fits,h.jok.place,h.jok.place,by show 1≤J.last.number+1;omega,by show J.last.number+1<_;omega,h.jok.turn0,h.jok.turn0,h.jok.turn1,by show 0≤_;omega,by intro i s q;simp[Jn.settled] at q⟩
theorem Held.settled{D D':Dk}{J:Jn}(h:Held D J)(hs:J.Small)(hc:D'.Calm)(hn:D'.n=D.n)(ha:D'.last J.cur=D.last J.cur)(hx:D'.last J.slot=J.next.sector)
  (hcl:∀q,q<J.last.ring→Clean (D'.last (2+q)) J.turn):Live D' (J.settled.anew D'):=by
 have e1:(J.settled.anew D').cur=J.slot:=rfl
 have e2:(J.settled.anew D').slot=J.cur:=by show((J.last.number+1+1) % 2).toNat=(J.last.number % 2).toNat;congr 1;omega
 have hlow:numI (D'.last (J.settled.anew D').slot) 504 8<(J.settled.anew D').last.number:=by
  rw[e2,ha,h.anc,(Anc.sector_ends (h.fit hs).1).2];show J.last.number<J.last.number+1;omega
 refine⟨⟨hc,(h.settledOk hs).anew hn D',rfl,rfl,by rw[e1];exact hx,.inl hlow,?_,hcl,Nat.zero_le _⟩,hlow⟩
 exact Path.refl _
def putsH(h:Nat→Sec)(l:List Put):Nat→Sec:=l.foldl (fun h p i=>if i=p.1.toNat then p.2 else h i) h
theorem awayL_home(l:List Put):∀(aw:Nat→Option Sec) (x:Nat→Sec) (i:Nat),(awayL aw l i).getD (x i)=putsH (fun i=>(aw i).getD (x i)) l i:=by
 induction l with
 | nil=>intro aw x i;rfl
 | cons p l ih=>
  intro aw x i
  show(awayL (fun i=>if i=p.1.toNat then some p.2 else aw i) l i).getD (x i)=putsH (fun i=>if i=p.1.toNat then p.2 else(aw i).getD (x i)) l i
  rw[ih]
  congr 1
  funext j
  split<;>rfl
theorem Jn.note_ok{J:Jn}{n:Nat}(h:J.Ok n){l:List Put}(hf:J.fits n l=0)(ht:J.turn<4611686018427387000)(hu:J.used+(1+l.length)≤J.last.ring):(J.note l).Ok n:=by
 have:=h.ring1
 have:=h.ring0
 have:=h.turn0
 have:=h.fits
 refine⟨h.ring0,h.ring1,h.fits,h.lplace,Nat.mod_lt _ (by omega),h.num0,h.num1,h.lturn0,by show 1≤J.turn+1;omega,by show J.turn+1<_;omega,by show J.used+(1+l.length)≤_;omega,fun i s q=>?_⟩
 show i+2+J.last.ring<n∧_
 rcases awayL_cases q with q | ⟨p,hp,e1,e2⟩
 ·exact h.away i s q
 ·obtain⟨a,b,c⟩:=(fits_parts hf).2.2.1 p hp
  rw[← e2,← e1]
  refine⟨?_,c⟩
  unfold Jn.homes at b;omega
theorem Jn.note_home{J:Jn}{D D':Dk}(l:List Put)(hc:D.Calm)(hc':D'.Calm)(hh:∀i,D'.last (2+J.last.ring+i)=D.last (2+J.last.ring+i)):(J.note l).home D'=putsH (J.home D) l:=by
 funext i
 unfold Jn.home
 show(awayL J.away l i).getD (D'.now (2+J.last.ring+i))=_
 rw[awayL_home l J.away (fun i=>D'.now (2+J.last.ring+i))]
 congr 1
 funext j
 rw[hc'.now,hc.now,hh]
theorem Held.note{D D':Dk}{J:Jn}{l:List Put}(h:Live D J)(hs:J.Small)(hf:J.fits D.n l=0)(h0:l≠[])(hu:J.used+(1+l.length)≤J.last.ring)(hc:D'.Calm)(hn:D'.n=D.n)
  (ha:∀i,i<2→D'.last i=D.last i) (hr:∀k,k<J.used→D'.last (J.at (J.last.place+k))=D.last (J.at (J.last.place+k)))
  (hh:D'.last (J.at J.place)=hdr J.turn l) (hb:∀k,(q:k<l.length)→D'.last (J.at (J.place+1+k))=ringSec J.turn l[k].2)
  (hcl:∀q,q<J.last.ring→Clean (D'.last (2+q)) (J.turn+1)):Live D' ((J.note l).anew D'):=by
 have hsl:=J.slot_ne
 have hlow:numI (D'.last ((J.note l).anew D').slot) 504 8<((J.note l).anew D').last.number:=by
  show numI (D'.last J.slot) 504 8<J.last.number
  rw[ha _ hsl.2.1];exact h.low
 have ht:=h.held.jok.turn0
 have hst:J.stands D'=l:=stands_commit (by rw[hn];exact hf) h0 hc.ok.n1 (by omega) h.held.jok.turn1 (by rw[hc.now];exact hh) (fun k q=>by rw[hc.now];exact hb k q)
 refine⟨⟨hc,(Jn.note_ok h.held.jok hf hs.2 hu).anew hn D',rfl,rfl,?_,.inl hlow,?_,hcl,hu⟩,hlow⟩
 ·show D'.last J.cur=J.last.sector
  rw[ha _ hsl.2.2];exact h.held.anc
 ·have hp:=h.held.path.frame (D':=D') hn h.held.jok.lplace (fun k hk=>by rw[hc.now,h.held.calm.now];exact hr k hk)
  have:=(hp.snoc (by rw[hst];exact h0)).anew (D':=D')
  rw[hst] at this
  exact this
def Back(D1:Dk)(n ring:Nat)(num:Int)(Q:Dk→Jn→Prop):Prop:=
 D1.off=true∧D1.n=n∧D1.Ok∧∀keep,∃J',Held (D1.power keep) J'∧J'.last.ring=ring∧J'.last.number≤num+1∧(D1.power keep).n=n∧(D1.power keep).armed = -1∧Q (D1.power keep) J'
theorem homeL_wrL(J:Jn):∀(l:List Nat) (D:Dk),homeL J D l=wrL D (l.map fun i=>(2+J.last.ring+i,(J.away i).getD []))
 | [],_=>rfl
 | i :: l,D=>by
  rw[homeL_cons,List.map_cons,wrL_cons,homeL_wrL J l]
theorem Jn.keys_mem{J:Jn}{n i:Nat}(h:J.Ok n):i∈J.keys n↔(J.away i).isSome=true:=by
 unfold Jn.keys
 rw[List.mem_filter,List.mem_range]
 refine⟨fun q=>q.2,fun q=>⟨?_,q⟩⟩
 obtain⟨s,hs⟩:=Option.isSome_iff_exists.1 q
 have:=(h.away i s hs).1
 unfold Jn.homes;omega
theorem Jn.keys_nodup(J:Jn)(n:Nat):(J.keys n).Nodup:=List.Pairwise.filter _ List.nodup_range
theorem sector_torn{J:Jn}{old x:Sec}(hfit:J.next.Fit)(hl:old.length=512)(hu:J.used≠0)
  (ho:numI old 504 8<J.last.number∨(J.used≠0∧old.take 504=J.next.sector.take 504∧numI old 504 8≠J.last.number+1))
  (ht:Torn old J.next.sector x):x=J.next.sector∨(numI x 504 8<J.last.number∨(J.used≠0∧x.take 504=J.next.sector.take 504∧numI x 504 8≠J.last.number+1)):=by
 have hsl:J.next.sector.length=512:=Anc.sector_length _
 obtain⟨hx,k,hk,hg⟩:=ht.get hl hsl
 have hends:=(Anc.sector_ends hfit).2
 have hnn:J.next.number=J.last.number+1:=rfl
 have tk:∀{a b:Sec},(∀i,i<504→a[i]?=b[i]?)→a.take 504=b.take 504:=by
  intro a b h
  apply List.ext_getElem?
  intro i
  rw[List.getElem?_take,List.getElem?_take]
  split
  ·exact h i (by assumption)
  ·rfl
 by_cases h504:504≤k
 ·have t504:x.take 504=J.next.sector.take 504:=tk fun i hi=>by rw[hg,if_pos (by omega)]
  by_cases e:numI x 504 8=J.last.number+1
  ·left
   have e8:(x.drop 504).take 8=(J.next.sector.drop 504).take 8:=by
    apply beN_inj (n:=8)
    ·rw[List.length_take,List.length_drop];omega
    ·rw[List.length_take,List.length_drop];omega
    ·have a1:numI x 504 8=numI J.next.sector 504 8:=by rw[e,hends,hnn]
     unfold numI num at a1;omega
   rw[List.take_of_length_le (by rw[List.length_drop];omega),List.take_of_length_le (by rw[List.length_drop];omega)] at e8
   rw[← List.take_append_drop 504 x,t504,e8,List.take_append_drop]
  ·exact .inr (.inr ⟨hu,t504,e⟩)
 ·have e8:numI x 504 8=numI old 504 8:=by
   show((num x 504 8:Nat):Int)=((num old 504 8:Nat):Int)
   exact congrArg _ (num_congr fun i h1 _=>by rw[hg,if_neg (by omega)])
  right
  rcases ho with q | ⟨_,q1,q2⟩
  ·left;rw[e8];exact q
  ·right
   refine⟨hu,?_,by rw[e8];exact q2⟩
   have:∀i,i<504→old[i]?=J.next.sector[i]?:=fun i hi=>by
    have:=congrArg (fun l:List UInt8=>l[i]?) q1
    simp only[List.getElem?_take_of_lt hi] at this
    exact this
   exact tk fun i hi=>by rw[hg];split;rfl;exact this i hi
theorem Held.settle{D:Dk}{J:Jn}(h:Held D J)(hs:J.Small)(hu:J.used≠0) :
  ((J.settleD D).2=0∧Live (J.settleD D).1 J.settled∧J.settled.home (J.settleD D).1=J.home D∧(J.settleD D).1.n=D.n∧(D.armed = -1→(J.settleD D).1.armed = -1))∨
  ((J.settleD D).2=8∧D.armed≠-1∧Back (J.settleD D).1 D.n J.last.ring J.last.number fun D' J'=>J'.turn=J.turn∧J'.home D'=J.home D):=by
 have hfits:=h.jok.fits
 have hring:=h.jok.ring0
 have hsl:=J.slot_ne
 have hfit:=h.fit hs
 have hnx:J.next.sector.length=512:=Anc.sector_length _
 let P1:Nat→Sec→Prop:=fun i b=>2+J.last.ring≤i∧J.away (i-(2+J.last.ring))=some b
 have fail1:∀D1,Fell D P1 D1→Back D1 D.n J.last.ring J.last.number fun D' J'=>J'.turn=J.turn∧J'.home D'=J.home D:=by
  intro D1 hf
  refine⟨hf.off,hf.n,hf.ok,fun keep=>?_⟩
  obtain⟨c1,c2,c3,c4,c5⟩:=hf.power keep
  have low:∀i,i<2+J.last.ring→(D1.power keep).last i=D.last i:=fun i hi=>by
   rcases c5 i with q | ⟨b,⟨q,_⟩,_⟩
   ·exact q
   ·omega
  refine⟨J.anew (D1.power keep),h.stay c1 c2 (low _ (by omega)) (by rw[low _ (by omega)];exact h.oth) (fun k _=>low _ (Jn.at_lt h.jok _).2.1) (fun q hq=>by rw[low _ (by omega)];exact h.clean q hq),rfl,by show J.last.number≤_;omega,c2,c3,rfl,?_⟩
  funext i
  show(J.away i).getD _=(J.away i).getD _
  cases ha:J.away i with
  | some s=>rfl
  | none=>
   show(D1.power keep).now _=D.now _
   rw[c1.now,h.calm.now]
   rcases c5 (2+J.last.ring+i) with q | ⟨b,⟨_,q⟩,_⟩
   ·exact q
   ·rw[show 2+J.last.ring+i-(2+J.last.ring)=i from by omega,ha] at q;simp at q
 have out1:=Pend.wrL ((J.keys D.n).map fun i=>(2+J.last.ring+i,(J.away i).getD [])) (Pend.start h.calm P1)
  (fun x hx=>by
   obtain⟨i,hi,rfl⟩:=List.mem_map.1 hx
   obtain⟨s,hs'⟩:=Option.isSome_iff_exists.1 ((Jn.keys_mem h.jok).1 hi)
   obtain⟨a1,a2⟩:=h.jok.away i s hs'
   refine⟨by show 2+J.last.ring+i<D.n;omega,by rw[hs'];exact a2,⟨by show 2+J.last.ring≤2+J.last.ring+i;omega,?_⟩,by rw[h.calm.wait]⟩
   show J.away (2+J.last.ring+i-(2+J.last.ring))=some ((J.away i).getD [])
   rw[show 2+J.last.ring+i-(2+J.last.ring)=i from by omega,hs'];rfl)
  (by
   rw[List.map_map]
   exact(List.pairwise_map.2 ((J.keys_nodup D.n).imp (fun hne q=>hne (by simp at q;exact q)))))
 rw[← homeL_wrL] at out1
 unfold Jn.settleD
 rcases out1 with⟨e1,p1,w1,w1'⟩ | ⟨e1,f1⟩
 rotate_left
 ·rw[if_pos (by rw[e1];decide)]
  exact .inr ⟨e1,f1.arm,fail1 _ f1⟩
 rw[if_neg (by rw[e1];decide)]
 rcases p1.flush with⟨e2,c2,l2,n2,lv2,ar2⟩ | ⟨e2,f2⟩
 rotate_left
 ·rw[if_pos (by rw[e2];decide)]
  exact .inr ⟨e2,f2.arm,fail1 _ f2⟩
 rw[if_neg (by rw[e2];decide)]
 generalize hD2:(homeL J D (J.keys D.n)).1.flush.1=D2 at *
 have low2:∀i,i<2+J.last.ring→D2.last i=D.last i:=fun i hi=>by
  rw[l2];unfold Dk.now
  rw[w1' i (by
   intro q
   obtain⟨x,hx,e⟩:=List.mem_map.1 q
   obtain⟨k,_,rfl⟩:=List.mem_map.1 hx
   replace e:2+J.last.ring+k=i:=e
   omega),h.calm.wait,p1.last];rfl
 have home2:∀i,D2.last (2+J.last.ring+i)=J.home D i:=fun i=>by
  rw[l2];unfold Dk.now Jn.home
  cases ha:J.away i with
  | some s=>
   have hk:i∈J.keys D.n:=(Jn.keys_mem h.jok).2 (by rw[ha];rfl)
   have:=w1 (2+J.last.ring+i,(J.away i).getD []) (List.mem_map.2 ⟨i,hk,rfl⟩)
   replace this:(homeL J D (J.keys D.n)).1.wait (2+J.last.ring+i)=some ((J.away i).getD []):=this
   rw[this,ha];rfl
  | none=>
   rw[w1' _ (by
    intro q
    obtain⟨x,hx,e⟩:=List.mem_map.1 q
    obtain⟨k,hk,rfl⟩:=List.mem_map.1 hx
    replace e:2+J.last.ring+k=2+J.last.ring+i:=e
    have:k=i:=by omega
    subst this
    have:=(Jn.keys_mem h.jok).1 hk
    rw[ha] at this;simp at this),h.calm.wait,p1.last]
   show D.last _=D.now _
   rw[h.calm.now]
 let P2:Nat→Sec→Prop:=fun i b=>i=J.slot∧b=J.next.sector
 have fail2:∀D1,Fell D2 P2 D1→Back D1 D.n J.last.ring J.last.number fun D' J'=>J'.turn=J.turn∧J'.home D'=J.home D:=by
  intro D1 hf
  refine⟨hf.off,hf.n.trans n2,hf.ok,fun keep=>?_⟩
  obtain⟨c1,c2',c3,c4,c5⟩:=hf.power keep
  have oth:∀i,i≠J.slot→(D1.power keep).last i=D2.last i:=fun i hi=>by
   rcases c5 i with q | ⟨b,⟨q,_⟩,_⟩
   ·exact q
   ·exact absurd q hi
  have hx:Torn (D.last J.slot) J.next.sector ((D1.power keep).last J.slot):=by
   rcases c5 J.slot with q | ⟨b,⟨_,rfl⟩,_,q⟩
   ·rw[q,low2 _ (by omega)];exact⟨0,by omega,by simp⟩
   ·rw[low2 _ (by omega)] at q;exact q
  have hcl:∀q,q<J.last.ring→Clean ((D1.power keep).last (2+q)) J.turn:=fun q hq=>by
   rw[oth _ (by omega),low2 _ (by omega)];exact h.clean q hq
  have hcur:(D1.power keep).last J.cur=D.last J.cur:=by rw[oth _ (Ne.symm hsl.1),low2 _ (by omega)]
  have hn3:(D1.power keep).n=D.n:=c2'.trans n2
  have hhome:∀i,(D1.power keep).last (2+J.last.ring+i)=J.home D i:=fun i=>by rw[oth _ (by omega),home2]
  rcases sector_torn hfit.2 (h.calm.ok.last _) hu h.oth hx with e | ho
  ·refine⟨J.settled.anew (D1.power keep),(h.settled hs c1 hn3 hcur e hcl).held,rfl,by show J.last.number+1≤_;omega,hn3,c3,rfl,?_⟩
   funext i
   show(D1.power keep).now (2+J.last.ring+i)=_
   rw[c1.now];exact hhome i
  ·refine⟨J.anew (D1.power keep),h.stay c1 hn3 hcur ho (fun k _=>?_) hcl,rfl,by show J.last.number≤_;omega,hn3,c3,rfl,?_⟩
   ·have:=Jn.at_lt h.jok (J.last.place+k)
    rw[oth _ (by omega),low2 _ (by omega)]
   ·funext i
    show(J.away i).getD _=_
    cases ha:J.away i with
    | some s=>unfold Jn.home;rw[ha];rfl
    | none=>
     show(D1.power keep).now (2+J.last.ring+i)=_
     rw[c1.now];exact hhome i
 have hslot:((J.last.number+1) % 2)=((J.slot:Nat):Int):=by unfold Jn.slot;omega
 rw[hslot]
 rcases (Pend.start c2 P2).write (i:=J.slot) (by omega) hnx ⟨rfl,rfl⟩ (by rw[c2.wait]) with⟨e3,p3,w3⟩ | ⟨e3,f3⟩
 rotate_left
 ·rw[if_pos (by rw[e3];decide)]
  exact .inr ⟨e3,fun q=>f3.arm (ar2 q),fail2 _ f3⟩
 rw[if_neg (by rw[e3];decide)]
 rcases p3.flush with⟨e4,c4,l4,n4,lv4,ar4⟩ | ⟨e4,f4⟩
 rotate_left
 ·exact .inr ⟨e4,fun q=>f4.arm (ar2 q),fail2 _ f4⟩
 left
 generalize hD4:(D2.write ((J.slot:Nat):Int) J.next.sector).1.flush.1=D4 at *
 have h4:∀i,D4.last i=if i=J.slot then J.next.sector else D2.last i:=fun i=>by
  rw[l4];unfold Dk.now;rw[w3,p3.last]
  show(if i=J.slot then some J.next.sector else D2.wait i).getD _=_
  split
  ·rfl
  ·rw[c2.wait];rfl
 have hL:=h.settled hs c4 (n4.trans n2) (by rw[h4,if_neg (Ne.symm hsl.1),low2 _ (by omega)]) (by rw[h4,if_pos rfl]) (fun q hq=>by rw[h4,if_neg (by omega),low2 _ (by omega)];exact h.clean q hq)
 have hlv:D4.lives=D.lives:=lv4.trans lv2
 have hja:J.settled.anew D4=J.settled:=by
  unfold Jn.anew Jn.settled
  rw[hlv,← h.lives,← h.done]
 rw[hja] at hL
 refine⟨e4,hL,?_,n4.trans n2,fun q=>ar4 (ar2 q)⟩
 funext i
 show D4.now (2+J.last.ring+i)=_
 rw[c4.now,h4,if_neg (by omega),home2]
end Go.Proofs.YtplppdbdfhkljaaGreat
namespace Go.Proofs.YtplppdbdfhkljaaGreat
open Go.RowKit
def comW(J:Jn):Nat→List Put→List (Nat × Sec)
 | _,[]=>[]
 | k,p :: l=>(J.at (J.place+1+k),ringSec J.turn p.2) :: comW J (k+1) l
theorem comL_wrL(J:Jn):∀(l:List Put) (k:Nat) (D:Dk),comL J k D l=wrL D (comW J k l)
 | [],_,_=>rfl
 | p :: l,k,D=>by
  rw[comL_cons]
  show _=wrL D ((J.at (J.place+1+k),ringSec J.turn p.2) :: comW J (k+1) l)
  rw[wrL_cons,comL_wrL J l]
theorem comW_mem(J:Jn):∀(l:List Put) (k:Nat) (x:Nat × Sec),x∈comW J k l↔∃m,∃h:m<l.length,x=(J.at (J.place+1+(k+m)),ringSec J.turn l[m].2)
 | [],k,x=>by simp[comW]
 | p :: l,k,x=>by
  show x∈(J.at (J.place+1+k),ringSec J.turn p.2) :: comW J (k+1) l↔_
  rw[List.mem_cons,comW_mem J l]
  constructor
  ·rintro(e | ⟨m,hm,e⟩)
   ·exact⟨0,by simp,by simpa using e⟩
   ·exact⟨m+1,by simpa using hm,by rw[e,show k+1+m=k+(m+1) from by omega];rfl⟩
  ·rintro⟨m,hm,e⟩
   cases m with
   | zero=>left;simpa using e
   | succ m=>right;exact⟨m,by simpa using hm,by rw[e,show k+1+m=k+(m+1) from by omega];rfl⟩
theorem at_ne{J:Jn}{x a b:Nat}(h0:a<b)(h1:b<a+J.last.ring):J.at (x+a)≠J.at (x+b):=by
 have:=mod_ne' (x:=x) h0 h1
 unfold Jn.at;omega
theorem comW_nodup{J:Jn}:∀(l:List Put) (k:Nat),k+l.length<J.last.ring→((comW J k l).map (·.1)).Nodup∧J.at J.place∉(comW J k l).map (·.1)
 | [],_,_=>⟨List.nodup_nil,by simp[comW]⟩
 | p :: l,k,h=>by
  simp only[List.length_cons] at h
  obtain⟨a1,a2⟩:=comW_nodup (J:=J) l (k+1) (by omega)
  show((J.at (J.place+1+k)) :: (comW J (k+1) l).map (·.1)).Nodup∧J.at J.place∉((J.at (J.place+1+k)) :: (comW J (k+1) l).map (·.1))
  refine⟨List.nodup_cons.2 ⟨fun q=>?_,a1⟩,fun q=>?_⟩
  ·obtain⟨x,hx,e⟩:=List.mem_map.1 q
   obtain⟨m,hm,rfl⟩:=(comW_mem J l (k+1) x).1 hx
   replace e:J.at (J.place+1+(k+1+m))=J.at (J.place+1+k):=e
   exact at_ne (J:=J) (x:=J.place+1) (a:=k) (b:=k+1+m) (by omega) (by omega) e.symm
  ·rcases List.mem_cons.1 q with e | q
   ·have:=at_ne (J:=J) (x:=J.place) (a:=0) (b:=1+k) (by omega) (by omega)
    rw[show J.place+(1+k)=J.place+1+k from by omega] at this
    exact this e
   ·exact a2 q
theorem Live.put{D:Dk}{J:Jn}{l:List Put}(h:Live D J)(hs:J.Small)(hf:J.fits D.n l=0)(h0:l≠[])(hu:J.used+(1+l.length)≤J.last.ring) :
  ((J.putD D l).2=0∧Live (J.putD D l).1 (J.note l)∧(J.note l).home (J.putD D l).1=putsH (J.home D) l∧(J.putD D l).1.n=D.n∧(D.armed = -1→(J.putD D l).1.armed = -1))∨
  ((J.putD D l).2=8∧D.armed≠-1∧Back (J.putD D l).1 D.n J.last.ring J.last.number fun D' J'=>(J'.turn=J.turn∧J'.home D'=J.home D)∨(J'.turn=J.turn+1∧J'.home D'=putsH (J.home D) l)):=by
 have hh:=h.held
 have hjok:=hh.jok
 have hfits:=hjok.fits
 have hring:=hjok.ring0
 have ht0:=hjok.turn0
 have ht1:=hs.2
 have hsl:=J.slot_ne
 obtain⟨f1,f2,f3,f4⟩:=fits_parts hf
 have hhom:J.homes D.n≤4096:=by unfold Jn.homes;have:=hh.calm.ok.n1;omega
 have hpok:PutsOk l:=⟨f1,fun p hp=>by obtain⟨a,b,c⟩:=f3 p hp;exact⟨a,by omega,c⟩⟩
 have hhl:=hdr_length (t:=J.turn) hpok
 have hplace:J.place=(J.last.place+J.used) % J.last.ring:=hh.facts.2.1
 have atP:∀k,J.at (J.place+k)=J.at (J.last.place+(J.used+k)):=fun k=>by
  unfold Jn.at;rw[hplace,Nat.mod_add_mod,Nat.add_assoc]
 have apart:∀m,m<J.used→∀k,k≤l.length→J.at (J.place+k)≠J.at (J.last.place+m):=fun m hm k hk=>by
  rw[atP];exact(at_ne (J:=J) (x:=J.last.place) (a:=m) (b:=J.used+k) (by omega) (by omega)).symm
 have at1:∀k,J.at (J.place+1+k)=J.at (J.place+(1+k)):=fun k=>by rw[Nat.add_assoc]
 have inr:∀k,2≤J.at k∧J.at k<2+J.last.ring∧J.at k<D.n:=fun k=>Jn.at_lt hjok k
 have apart1:∀k,k<l.length→J.at (J.place+1+k)≠J.at J.place:=fun k hk=>by
  rw[at1];exact(at_ne (J:=J) (x:=J.place) (a:=0) (b:=1+k) (by omega) (by omega)).symm
 let ws:=(J.at J.place,zsec) :: comW J 0 l
 have wsm:∀x,x∈ws↔x=(J.at J.place,zsec)∨∃m,∃q:m<l.length,x=(J.at (J.place+1+m),ringSec J.turn l[m].2):=fun x=>by
  show x∈_ :: _↔_
  rw[List.mem_cons,comW_mem];simp
 let P1:Nat→Sec→Prop:=fun i b=>(i,b)∈ws
 have hP1:∀i b,P1 i b→b.length=512∧num b 7 1 % 2=0∧∃k,k≤l.length∧i=J.at (J.place+k):=fun i b q=>by
  rcases (wsm _).1 q with e | ⟨m,hm,e⟩
  ·cases e;exact⟨zsec_length,by rw[zsec_num 7 (by omega)],0,Nat.zero_le _,rfl⟩
  ·cases e
   have hl:=(f3 _ (List.getElem_mem hm)).2.2
   exact⟨ringSec_length hl,ringSec_even hl (by omega) (by omega),1+m,by omega,at1 m⟩
 have fail1:∀D1,Fell D P1 D1→Back D1 D.n J.last.ring J.last.number fun D' J'=>(J'.turn=J.turn∧J'.home D'=J.home D)∨(J'.turn=J.turn+1∧J'.home D'=putsH (J.home D) l):=by
  intro D1 hfl
  refine⟨hfl.off,hfl.n,hfl.ok,fun keep=>?_⟩
  obtain⟨c1,c2,c3,c4,c5⟩:=hfl.power keep
  have same:∀i,(∀k,k≤l.length→i≠J.at (J.place+k))→(D1.power keep).last i=D.last i:=fun i hi=>by
   rcases c5 i with q | ⟨b,q,_⟩
   ·exact q
   ·obtain⟨_,_,k,hk,e⟩:=hP1 i b q;exact absurd e (hi k hk)
  have same2:∀i,i<2→(D1.power keep).last i=D.last i:=fun i hi=>same i fun k _ e=>by have:=inr (J.place+k);omega
  refine⟨J.anew (D1.power keep),hh.stay c1 c2 (same2 _ hsl.2.2) (by rw[same2 _ hsl.2.1];exact hh.oth) (fun m hm=>same _ fun k hk e=>apart m hm k hk e.symm) (fun q hq=>?_),rfl,by show J.last.number≤_;omega,c2,c3,.inl ⟨rfl,?_⟩⟩
  ·rcases c5 (2+q) with e | ⟨b,hb,hbl,ht⟩
   ·rw[e];exact hh.clean q hq
   ·exact(hh.clean q hq).torn (hP1 _ _ hb).2.1 ht (hh.calm.ok.last _) hbl
  ·funext i
   show(J.away i).getD ((D1.power keep).now (2+J.last.ring+i))=(J.away i).getD (D.now (2+J.last.ring+i))
   rw[c1.now,hh.calm.now,same _ fun k _ e=>by have:=inr (J.place+k);omega]
 have out1:=Pend.wrL ws (Pend.start hh.calm P1)
  (fun x hx=>by
   obtain⟨a1,a2,k,a3,a4⟩:=hP1 x.1 x.2 hx
   exact⟨by rw[a4];exact(inr _).2.2,a1,hx,by rw[hh.calm.wait]⟩)
  (by
   obtain⟨a1,a2⟩:=comW_nodup (J:=J) l 0 (by omega)
   exact List.nodup_cons.2 ⟨a2,a1⟩)
 have hput:J.putD D l=if(wrL D ws).2≠0 then wrL D ws else if(wrL D ws).1.flush.2≠0 then(wrL D ws).1.flush else if((wrL D ws).1.flush.1.write ((J.at J.place:Nat):Int) (hdr J.turn l)).2≠0 then(wrL D ws).1.flush.1.write ((J.at J.place:Nat):Int) (hdr J.turn l) else((wrL D ws).1.flush.1.write ((J.at J.place:Nat):Int) (hdr J.turn l)).1.flush:=by
  unfold Jn.putD
  have e:wrL D ws=if(D.write ((J.at J.place:Nat):Int) zsec).2≠0 then D.write ((J.at J.place:Nat):Int) zsec else wrL (D.write ((J.at J.place:Nat):Int) zsec).1 (comW J 0 l):=rfl
  simp only[]
  by_cases q:(D.write ((J.at J.place:Nat):Int) zsec).2≠0
  ·rw[if_pos q] at e ⊢
   rw[e,if_pos q]
  ·rw[if_neg q] at e ⊢
   rw[e,comL_wrL]
 rw[hput]
 rcases out1 with⟨e1,p1,w1,w1'⟩ | ⟨e1,g1⟩
 rotate_left
 ·rw[if_pos (by rw[e1];decide)]
  exact .inr ⟨e1,g1.arm,fail1 _ g1⟩
 rw[if_neg (by rw[e1];decide)]
 rcases p1.flush with⟨e2,c2,l2,n2,lv2,ar2⟩ | ⟨e2,g2⟩
 rotate_left
 ·rw[if_pos (by rw[e2];decide)]
  exact .inr ⟨e2,g2.arm,fail1 _ g2⟩
 rw[if_neg (by rw[e2];decide)]
 generalize hD2:(wrL D ws).1.flush.1=D2 at *
 have same2:∀i,(∀k,k≤l.length→i≠J.at (J.place+k))→D2.last i=D.last i:=fun i hi=>by
  rw[l2];unfold Dk.now
  rw[w1' i (by
   intro q
   obtain⟨x,hx,e⟩:=List.mem_map.1 q
   obtain⟨_,_,k,hk,e'⟩:=hP1 x.1 x.2 hx
   exact hi k hk (e.symm.trans e')),hh.calm.wait,p1.last];rfl
 have head2:D2.last (J.at J.place)=zsec:=by
  rw[l2];unfold Dk.now
  have:=w1 (J.at J.place,zsec) ((wsm _).2 (.inl rfl))
  replace this:(wrL D ws).1.wait (J.at J.place)=some zsec:=this
  rw[this];rfl
 have body2:∀k,(q:k<l.length)→D2.last (J.at (J.place+1+k))=ringSec J.turn l[k].2:=fun k q=>by
  rw[l2];unfold Dk.now
  have:=w1 (J.at (J.place+1+k),ringSec J.turn l[k].2) ((wsm _).2 (.inr ⟨k,q,rfl⟩))
  replace this:(wrL D ws).1.wait (J.at (J.place+1+k))=some (ringSec J.turn l[k].2):=this
  rw[this];rfl
 have clean2:∀q,q<J.last.ring→Clean (D2.last (2+q)) J.turn:=fun q hq=>by
  by_cases hi:∃k,k≤l.length∧2+q=J.at (J.place+k)
  ·obtain⟨k,hk,e⟩:=hi
   rw[e]
   cases k with
   | zero=>rw[show J.place+0=J.place from rfl,head2];exact Clean.zsec _
   | succ k=>
    rw[show J.place+(k+1)=J.place+1+k from by omega,body2 k (by omega)]
    exact .inl (ringSec_even (f3 _ (List.getElem_mem (by omega:k<l.length))).2.2 (by omega) (by omega))
  ·rw[same2 _ fun k hk e=>hi ⟨k,hk,e⟩];exact hh.clean q hq
 let P2:Nat→Sec→Prop:=fun i b=>i=J.at J.place∧b=hdr J.turn l
 have noted:∀D',D'.Calm→D'.n=D.n→(∀i,i≠J.at J.place→D'.last i=D2.last i)→D'.last (J.at J.place)=hdr J.turn l→Live D' ((J.note l).anew D')∧((J.note l).anew D').home D'=putsH (J.home D) l:=by
  intro D' c n hi hx
  have hout:∀i,(∀k,k≤l.length→i≠J.at (J.place+k))→D'.last i=D.last i:=fun i q=>(hi i (q 0 (Nat.zero_le _))).trans (same2 i q)
  refine⟨Held.note h hs hf h0 hu c n (fun i q=>hout i fun k _ e=>by have:=inr (J.place+k);omega) (fun m hm=>hout _ fun k hk e=>apart m hm k hk e.symm) hx (fun k q=>?_) (fun q hq=>?_),?_⟩
  ·rw[hi _ (apart1 k q)];exact body2 k q
  ·by_cases e:2+q=J.at J.place
   ·rw[e,hx];exact Clean.hdr hpok (by omega) (by omega)
   ·rw[hi _ e];exact(clean2 q hq).mono (by omega)
  ·exact Jn.note_home (J:=J) l hh.calm c (fun i=>hout _ fun k _ e=>by have:=inr (J.place+k);omega)
 have fail2:∀D1,Fell D2 P2 D1→Back D1 D.n J.last.ring J.last.number fun D' J'=>(J'.turn=J.turn∧J'.home D'=J.home D)∨(J'.turn=J.turn+1∧J'.home D'=putsH (J.home D) l):=by
  intro D1 hfl
  refine⟨hfl.off,hfl.n.trans n2,hfl.ok,fun keep=>?_⟩
  obtain⟨c1,c2',c3,c4,c5⟩:=hfl.power keep
  have hn3:(D1.power keep).n=D.n:=c2'.trans n2
  have oth:∀i,i≠J.at J.place→(D1.power keep).last i=D2.last i:=fun i hi=>by
   rcases c5 i with q | ⟨b,⟨q,_⟩,_⟩
   ·exact q
   ·exact absurd q hi
  have hx:Torn zsec (hdr J.turn l) ((D1.power keep).last (J.at J.place)):=by
   rcases c5 (J.at J.place) with q | ⟨b,⟨_,rfl⟩,_,q⟩
   ·rw[q,head2];exact⟨0,by omega,by simp⟩
   ·rw[head2] at q;exact q
  rcases Clean.hdrTorn hpok hx with e | hcl
  ·obtain⟨a1,a2⟩:=noted _ c1 hn3 oth e
   exact⟨_,a1.held,rfl,by show J.last.number≤_;omega,hn3,c3,.inr ⟨rfl,a2⟩⟩
  ·have hout:∀i,(∀k,k≤l.length→i≠J.at (J.place+k))→(D1.power keep).last i=D.last i:=fun i q=>(oth i (q 0 (Nat.zero_le _))).trans (same2 i q)
   have hout2:∀i,i<2→(D1.power keep).last i=D.last i:=fun i hi=>hout i fun k _ e=>by have:=inr (J.place+k);omega
   refine⟨J.anew (D1.power keep),hh.stay c1 hn3 (hout2 _ hsl.2.2) (by rw[hout2 _ hsl.2.1];exact hh.oth) (fun m hm=>hout _ fun k hk e=>apart m hm k hk e.symm) (fun q hq=>?_),rfl,by show J.last.number≤_;omega,hn3,c3,.inl ⟨rfl,?_⟩⟩
   ·by_cases e:2+q=J.at J.place
    ·rw[e];exact hcl
    ·rw[oth _ e];exact clean2 q hq
   ·funext i
    show(J.away i).getD ((D1.power keep).now (2+J.last.ring+i))=(J.away i).getD (D.now (2+J.last.ring+i))
    rw[c1.now,hh.calm.now,hout _ fun k _ e=>by have:=inr (J.place+k);omega]
 rcases (Pend.start c2 P2).write (i:=J.at J.place) (by rw[n2];exact(inr _).2.2) hhl ⟨rfl,rfl⟩ (by rw[c2.wait]) with⟨e3,p3,w3⟩ | ⟨e3,g3⟩
 rotate_left
 ·rw[if_pos (by rw[e3];decide)]
  exact .inr ⟨e3,fun q=>g3.arm (ar2 q),fail2 _ g3⟩
 rw[if_neg (by rw[e3];decide)]
 rcases p3.flush with⟨e4,c4,l4,n4,lv4,ar4⟩ | ⟨e4,g4⟩
 rotate_left
 ·exact .inr ⟨e4,fun q=>g4.arm (ar2 q),fail2 _ g4⟩
 left
 generalize hD4:(D2.write ((J.at J.place:Nat):Int) (hdr J.turn l)).1.flush.1=D4 at *
 have h4:∀i,D4.last i=if i=J.at J.place then hdr J.turn l else D2.last i:=fun i=>by
  rw[l4];unfold Dk.now;rw[w3,p3.last]
  show(if i=J.at J.place then some (hdr J.turn l) else D2.wait i).getD _=_
  split
  ·rfl
  ·rw[c2.wait];rfl
 obtain⟨hL,hH⟩:=noted D4 c4 (n4.trans n2) (fun i hi=>by rw[h4,if_neg hi]) (by rw[h4,if_pos rfl])
 have hlv:D4.lives=D.lives:=lv4.trans lv2
 have hja:(J.note l).anew D4=J.note l:=by
  unfold Jn.anew Jn.note
  rw[hlv,← hh.lives,← hh.done]
 rw[hja] at hL hH
 exact⟨e4,hL,hH,n4.trans n2,fun q=>ar4 (ar2 q)⟩
theorem Held.may{D:Dk}{J:Jn}(h:Held D J):J.may D=0:=by
 unfold Jn.may;rw[if_neg (by simp[h.done,h.lives])]
theorem Held.keys{D:Dk}{J:Jn}(h:Held D J)(hu:J.used≠0):J.keys D.n≠[]:=by
 rcases h.path.any with e | ⟨i,hi⟩
 ·exact absurd (by rw[e];rfl) hu
 ·intro q
  have:=(Jn.keys_mem h.jok).2 hi
  rw[q] at this;simp at this
theorem Held.nokeys{D:Dk}{J:Jn}(h:Held D J)(hu:J.used=0):J.keys D.n=[]:=by
 have e:=h.facts.2.2 hu
 apply List.eq_nil_iff_forall_not_mem.2
 intro i hi
 have:=(Jn.keys_mem h.jok).1 hi
 rw[e] at this;simp[Jn.base] at this
theorem Live.ck{D:Dk}{J:Jn}(h:Live D J)(hs:J.Small) :
  ((J.ckD D).2=0∧Live (J.ckD D).1 (J.ck D)∧(J.ck D).home (J.ckD D).1=J.home D∧(J.ck D).used=0∧(J.ck D).turn=J.turn∧(J.ck D).last.ring=J.last.ring∧(J.ck D).last.number≤J.last.number+1∧(J.ckD D).1.n=D.n∧(D.armed = -1→(J.ckD D).1.armed = -1))∨
  ((J.ckD D).2=8∧D.armed≠-1∧Back (J.ckD D).1 D.n J.last.ring J.last.number fun D' J'=>J'.turn=J.turn∧J'.home D'=J.home D):=by
 have hm:=h.held.may
 have h1:=hs.1
 have hm':¬(J.may D≠0):=by rw[hm];decide
 by_cases hu:J.used=0
 ·have hk:=h.held.nokeys hu
  have eD:J.ckD D=(D,0):=by unfold Jn.ckD;rw[if_neg hm',if_pos hk]
  have eJ:J.ck D=J:=by unfold Jn.ck;rw[if_neg hm',if_pos hk]
  rw[eD,eJ]
  exact .inl ⟨rfl,h,rfl,hu,rfl,rfl,by omega,rfl,id⟩
 ·have hk:=h.held.keys hu
  have eD:J.ckD D=J.settleD D:=by unfold Jn.ckD;rw[if_neg hm',if_neg hk,if_neg (by omega)]
  have eJ:J.ck D=J.settle D:=by unfold Jn.ck;rw[if_neg hm',if_neg hk,if_neg (by omega)]
  rw[eD,eJ]
  rcases h.held.settle hs hu with⟨e1,e2,e3,e4,e5⟩ | ⟨e1,e2,e3⟩
  ·have:J.settle D=J.settled:=by unfold Jn.settle;rw[if_neg (by rw[e1];decide)]
   rw[this]
   exact .inl ⟨e1,e2,e3,rfl,rfl,rfl,Int.le_refl _,e4,e5⟩
  ·exact .inr ⟨e1,e2,e3⟩
theorem fits_ring{J J':Jn}(h:J'.last.ring=J.last.ring)(n:Nat)(l:List Put):J'.fits n l=J.fits n l:=by
 unfold Jn.fits Jn.homes;rw[h]
theorem Live.com{D:Dk}{J:Jn}{l:List Put}(h:Live D J)(hs:J.Small)(hs':J.last.number+1<4611686018427387000)(hf:J.fits D.n l=0)(h0:l≠[]) :
  ((J.comD D l).2=0∧Live (J.comD D l).1 (J.com D l)∧(J.com D l).home (J.comD D l).1=putsH (J.home D) l∧(J.com D l).turn=J.turn+1∧(J.com D l).last.ring=J.last.ring∧(J.com D l).last.number≤J.last.number+1∧(J.comD D l).1.n=D.n∧(D.armed = -1→(J.comD D l).1.armed = -1)∧(J.used=0→(J.com D l).used=1+l.length))∨
  ((J.comD D l).2=8∧D.armed≠-1∧Back (J.comD D l).1 D.n J.last.ring (J.last.number+1) fun D' J'=>(J'.turn=J.turn∧J'.home D'=J.home D)∨(J'.turn=J.turn+1∧J'.home D'=putsH (J.home D) l)):=by
 have hm:=h.held.may
 have h1:=hs.1
 have h2:=hs.2
 obtain⟨f1,f2,_,_⟩:=fits_parts hf
 have hput:∀{J':Jn} {D':Dk},(J'.putD D' l).2=0→J'.put D' l=J'.note l:=by
  intro J' D' e;unfold Jn.put;rw[if_neg (by rw[e];decide)]
 have hm':¬(J.may D≠0):=by rw[hm];decide
 have hf':¬(J.fits D.n l≠0):=by rw[hf];decide
 have ht':¬(4611686018427387903≤J.turn):=by omega
 by_cases ht:J.tight l
 ·have eD:J.comD D l=if(J.ckD D).2≠0 then J.ckD D else(J.ck D).putD (J.ckD D).1 l:=by unfold Jn.comD;rw[if_neg hm',if_neg hf',if_neg h0,if_neg ht',if_pos ht]
  have eJ:J.com D l=if(J.ckD D).2≠0 then J.ck D else(J.ck D).put (J.ckD D).1 l:=by unfold Jn.com;rw[if_neg hm',if_neg hf',if_neg h0,if_neg ht',if_pos ht]
  rw[eD,eJ]
  have hu:J.used≠0:=by unfold Jn.tight at ht;omega
  rcases h.ck hs with⟨e1,L1,H1,U1,T1,R1,N1,n1,A1⟩ | ⟨e1,e2,b0,b1,b2,b3⟩
  ·have e1':¬((J.ckD D).2≠0):=by rw[e1];decide
   simp only[if_neg e1']
   have hs2:(J.ck D).Small:=⟨by omega,by omega⟩
   have hf2:(J.ck D).fits (J.ckD D).1.n l=0:=by rw[n1,fits_ring R1];exact hf
   rcases L1.put hs2 hf2 h0 (by omega) with⟨p1,p2,p3,p4,p5⟩ | ⟨p1,p2,c0,c1,c2,c3⟩
   ·rw[hput p1]
    refine .inl ⟨p1,p2,by rw[p3,H1],by show(J.ck D).turn+1=_;rw[T1],R1,by show(J.ck D).last.number≤_;exact N1,p4.trans n1,fun q=>p5 (A1 q),fun q=>absurd q hu⟩
   ·refine .inr ⟨p1,fun q=>p2 (A1 q),c0,c1.trans n1,c2,fun keep=>?_⟩
    obtain⟨J',g1,g2,g3,g4,g5,g6⟩:=c3 keep
    refine⟨J',g1,g2.trans R1,by omega,g4.trans n1,g5,?_⟩
    rw[T1,H1] at g6;exact g6
  ·rw[if_pos (by rw[e1];decide)]
   refine .inr ⟨e1,e2,b0,b1,b2,fun keep=>?_⟩
   obtain⟨J',g1,g2,g3,g4,g5,g6⟩:=b3 keep
   exact⟨J',g1,g2,by omega,g4,g5,.inl g6⟩
 ·have eD:J.comD D l=J.putD D l:=by unfold Jn.comD;rw[if_neg hm',if_neg hf',if_neg h0,if_neg ht',if_neg ht]
  have eJ:J.com D l=J.put D l:=by unfold Jn.com;rw[if_neg hm',if_neg hf',if_neg h0,if_neg ht',if_neg ht]
  rw[eD,eJ]
  have hroom:J.used+(1+l.length)≤J.last.ring:=by unfold Jn.tight at ht;omega
  rcases h.put hs hf h0 hroom with⟨p1,p2,p3,p4,p5⟩ | ⟨p1,p2,c0,c1,c2,c3⟩
  ·rw[hput p1]
   exact .inl ⟨p1,p2,p3,rfl,rfl,by show J.last.number≤_;omega,p4,p5,fun q=>by show J.used+(1+l.length)=_;omega⟩
  ·refine .inr ⟨p1,p2,c0,c1,c2,fun keep=>?_⟩
   obtain⟨J',g1,g2,g3,g4,g5,g6⟩:=c3 keep
   exact⟨J',g1,g2,by omega,g4,g5,g6⟩
theorem Live.comNo{D:Dk}{J:Jn}{l:List Put}(h:Live D J)(hf:J.fits D.n l≠0∨l=[]):J.comD D l=(D,J.fits D.n l)∧J.com D l=J:=by
 have hm:=h.held.may
 unfold Jn.comD Jn.com
 by_cases e:J.fits D.n l=0
 ·have e0:l=[]:=hf.resolve_left (fun q=>q e)
  rw[e0] at e
  simp[hm,e0,e]
 ·simp[hm,e]
theorem Held.open{D D':Dk}{J:Jn}{r:Option Jn}{err:Int}(h:Held D J)(hs:J.Small)(ho:OpenR D D' r err) :
  (err=0∧∃J',r=some J'∧Live D' J'∧J'.home D'=J.home D∧J'.used=0∧J'.turn=J.turn∧J'.last.ring=J.last.ring∧J'.last.number≤J.last.number+1∧D'.n=D.n∧(D.armed = -1→D'.armed = -1))∨
  (err=8∧r=none∧D.armed≠-1∧Back D' D.n J.last.ring J.last.number fun D2 J2=>J2.turn=J.turn∧J2.home D2=J.home D):=by
 have hanc:=h.anchor hs
 have hboot:=h.boot hs
 have hn0:=h.jok.num0
 have h1:=hs.1
 have h2:=hs.2
 have hscan:Scan D D.boot J:=by rw[hboot];exact h.path.scan h.stop
 by_cases hu:J.used=0
 ·have hJ:=h.facts.2.2 hu
  have hst:D.boot.stands D=[]:=by rw[hboot,← hJ];exact h.stop
  cases ho with
  | off q=>rw[h.calm.off] at q;simp at q
  | none _ q=>rw[hanc] at q;omega
  | keep _ _ _=>
   refine .inl ⟨rfl,J,by rw[hboot,← hJ],⟨h,?_⟩,rfl,hu,rfl,rfl,by omega,rfl,id⟩
   rcases h.oth with q | ⟨q,_⟩
   ·exact q
   ·exact absurd hu q
  | full _ _ q _ _=>exact absurd hst q
  | fail _ _ q _ _ _ _=>exact absurd hst q
  | ok _ _ q _ _ _ _=>exact absurd hst q
 ·have hst:D.boot.stands D≠[]:=by
   intro q
   have:=hscan.det (Scan.stop q)
   rw[hboot] at this
   exact hu (by rw[this];rfl)
  cases ho with
  | off q=>rw[h.calm.off] at q;simp at q
  | none _ q=>rw[hanc] at q;omega
  | keep _ _ q=>exact absurd q hst
  | full _ _ _ q r=>
   obtain rfl:=q.det hscan
   omega
  | fail _ _ _ q _ _ r=>
   obtain rfl:=q.det hscan
   rcases h.settle hs hu with⟨e,_⟩ | ⟨e1,e2,e3⟩
   ·exact absurd e r
   ·exact .inr ⟨e1,rfl,e2,e3⟩
  | ok _ _ _ q _ _ r=>
   obtain rfl:=q.det hscan
   rcases h.settle hs hu with⟨e1,e2,e3,e4,e5⟩ | ⟨e1,e2,e3⟩
   ·exact .inl ⟨rfl,_,rfl,e2,e3,rfl,rfl,rfl,Int.le_refl _,e4,e5⟩
   ·rw[e1] at r;simp at r
theorem Held.power{D:Dk}{J:Jn}(h:Held D J)(keep:List Bool):Held (D.power keep) (J.anew (D.power keep))∧(J.anew (D.power keep)).home (D.power keep)=J.home D∧(D.power keep).n=D.n∧(D.power keep).armed = -1:=by
 obtain⟨c1,c2,c3,c4⟩:=h.calm.power keep
 refine⟨h.stay c1 c2 (c4 _) (by rw[c4];exact h.oth) (fun k _=>c4 _) (fun q hq=>by rw[c4];exact h.clean q hq),?_,c2,c3⟩
 funext i
 show(J.away i).getD ((D.power keep).now (2+J.last.ring+i))=(J.away i).getD (D.now (2+J.last.ring+i))
 rw[c1.now,h.calm.now,c4]
end Go.Proofs.YtplppdbdfhkljaaGreat
namespace Go.Proofs.YtplppdbdfhkljaaGreat
open Go.RowKit
def Jn.fresh(ring:Nat):Jn:={ lives:=0,done:=false,last:=⟨1,1,0,ring⟩,turn:=1,place:=0,used:=0,away:=fun _=>none }
structure Zd(D E:Dk)(k:Nat):Prop where
 on:E.On
 ok:E.Ok
 n:E.n=D.n
 lives:E.lives=D.lives
 way:E.way=none
 z:∀i,i<k→E.now i=zsec
 far:∀i,D.n≤i→E.now i=D.now i
theorem Dk.new_ok{n:Nat}(h0:32≤n)(h1:n≤4096):(Dk.new n).Ok:=
 ⟨h0,h1,fun _=>zsec_length,fun _ _ h=>by simp[Dk.new] at h,by show -1≤(-1:Int);omega,by show(-1:Int)≤_;omega,by show 0≤512;omega,fun _ h=>by simp[Dk.new] at h,by show([]:List UInt8).length≤512;simp⟩
theorem Dk.On.flush_ok{D:Dk}(h:D.On)(hok:D.Ok):D.flush.1.Ok:=by
 rw[h.flush]
 exact⟨hok.n0,hok.n1,fun i=>Dk.now_len hok i,fun _ _ q=>by simp at q,hok.armed0,hok.armed1,hok.part,hok.way,hok.front⟩
theorem Dk.On.write_ok{D:Dk}(h:D.On)(hok:D.Ok){i:Nat}(hi:i<D.n){b:Sec}(hb:b.length=512):(D.write (i:Int) b).1.Ok:=by
 rw[h.write hi hb]
 refine⟨hok.n0,hok.n1,hok.last,fun j s q=>?_,hok.armed0,hok.armed1,hok.part,hok.way,hok.front⟩
 replace q:(if j=i then some b else D.wait j)=some s:=q
 split at q
 ·rename_i e;cases q;rw[e];exact⟨hi,hb⟩
 ·exact hok.wait j s q
theorem Dk.On.now_write{D:Dk}(h:D.On){i:Nat}(hi:i<D.n){b:Sec}(hb:b.length=512)(j:Nat):(D.write (i:Int) b).1.now j=if j=i then b else D.now j:=by
 rw[h.write hi hb]
 unfold Dk.now
 show((if j=i then some b else D.wait j):Option Sec).getD (D.last j)=_
 split<;>rfl
theorem Dk.On.now_flush{D:Dk}(h:D.On)(j:Nat):D.flush.1.now j=D.now j:=by
 rw[h.flush];rfl
theorem zd_all{D:Dk}(hon:D.On)(hok:D.Ok)(hw:D.way=none):∀k,k≤D.n→Zd D (D.zeroK k) k
 | 0,_=>⟨hon,hok,rfl,rfl,hw,fun _ q=>by omega,fun _ _=>rfl⟩
 | k+1,hk=>by
  have ih:=zd_all hon hok hw k (by omega)
  have step:∀E:Dk,Zd D E k→Zd D (E.write (k:Int) zsec).1 (k+1):=by
   intro E z
   have hkn:k<E.n:=by rw[z.n];omega
   refine⟨(z.on.written hkn zsec_length).1,z.on.write_ok z.ok hkn zsec_length,(Dk.write_n _ _ _).trans z.n,?_,?_,fun i hi=>?_,fun i hi=>?_⟩
   ·rw[z.on.write hkn zsec_length];exact z.lives
   ·rw[z.on.write hkn zsec_length];exact z.way
   ·rw[z.on.now_write hkn zsec_length]
    split
    ·rfl
    ·exact z.z i (by omega)
   ·rw[z.on.now_write hkn zsec_length,if_neg (by omega)];exact z.far i hi
  show Zd D ((if k=2 then(D.zeroK k).flush.1 else D.zeroK k).write (k:Int) zsec).1 (k+1)
  split
  ·refine step _ ⟨ih.on.flushed.1,ih.on.flush_ok ih.ok,(Dk.flush_n _).trans ih.n,?_,?_,fun i hi=>by rw[ih.on.now_flush];exact ih.z i hi,fun i hi=>by rw[ih.on.now_flush];exact ih.far i hi⟩
   ·rw[ih.on.flush];exact ih.lives
   ·rw[ih.on.flush];exact ih.way
  ·exact step _ ih
theorem fmt_live{n ring:Nat}(h0:32≤n)(h1:n≤4096)(r0:8≤ring)(r1:ring≤1024)(r2:ring+10≤n) :
  Live ((Dk.new n).fmt ring) (Jn.fresh ring)∧(Jn.fresh ring).home ((Dk.new n).fmt ring)=(fun _=>zsec)∧((Dk.new n).fmt ring).n=n∧((Dk.new n).fmt ring).armed = -1:=by
 have hon:(Dk.new n).On:=⟨rfl,rfl⟩
 have z:=zd_all hon (Dk.new_ok h0 h1) rfl n (Nat.le_refl _)
 have hn1:1<((Dk.new n).zeroK n).flush.1.n:=by rw[Dk.flush_n,z.n];show 1<n;omega
 have on1:=z.on.flushed.1
 have ok1:=z.on.flush_ok z.ok
 have hsec:(Anc.sector ⟨1,1,0,ring⟩).length=512:=Anc.sector_length _
 have on2:=(on1.written hn1 hsec).1
 have ok2:=on1.write_ok ok1 hn1 hsec
 have e:(Dk.new n).fmt ring=(((Dk.new n).zeroK n).flush.1.write ((1:Nat):Int) (Anc.sector ⟨1,1,0,ring⟩)).1.flush.1:=rfl
 have hnow:∀i,((Dk.new n).zeroK n).now i=zsec:=fun i=>by
  by_cases q:i<n
  ·exact z.z i q
  ·exact(z.far i (by show n≤i;omega)).trans rfl
 have hlast:∀i,((Dk.new n).fmt ring).last i=if i=1 then Anc.sector ⟨1,1,0,ring⟩ else zsec:=fun i=>by
  rw[e,on2.flush]
  show(((Dk.new n).zeroK n).flush.1.write ((1:Nat):Int) _).1.now i=_
  rw[on1.now_write hn1 hsec,z.on.now_flush,hnow]
 have hlives:((Dk.new n).fmt ring).lives=0:=by
  rw[e,on2.flush]
  show(((Dk.new n).zeroK n).flush.1.write ((1:Nat):Int) _).1.lives=_
  rw[on1.write hn1 hsec]
  show((Dk.new n).zeroK n).flush.1.lives=0
  rw[z.on.flush];exact z.lives
 have hcalm:((Dk.new n).fmt ring).Calm:=by
  refine⟨by rw[e];exact on2.flush_ok ok2,(on2.flushed.1).1,by rw[e,on2.flush],?_⟩
  rw[e,on2.flush]
  show(((Dk.new n).zeroK n).flush.1.write ((1:Nat):Int) _).1.way=_
  rw[on1.write hn1 hsec]
  show((Dk.new n).zeroK n).flush.1.way=none
  rw[z.on.flush];exact z.way
 have hn:((Dk.new n).fmt ring).n=n:=by rw[e,Dk.flush_n,Dk.write_n,Dk.flush_n,z.n];rfl
 have hlow:numI (((Dk.new n).fmt ring).last (Jn.fresh ring).slot) 504 8<(Jn.fresh ring).last.number:=by
  show numI (((Dk.new n).fmt ring).last 0) 504 8<1
  rw[hlast,if_neg (by omega)]
  have:num zsec 504 8=0:=by decide +kernel
  unfold numI;rw[this];decide
 refine⟨⟨⟨hcalm,?_,hlives.symm,rfl,by show((Dk.new n).fmt ring).last 1=_;rw[hlast,if_pos rfl];rfl,.inl hlow,Path.refl _,fun q _=>?_,Nat.zero_le _⟩,hlow⟩,?_,hn,(on2.flushed.1).2⟩
 ·rw[hn]
  exact⟨r0,r1,r2,by show 0<ring;omega,by show 0<ring;omega,by show(1:Int)≤1;omega,by show(1:Int)<_;omega,by show(1:Int)≤1;omega,by show(1:Int)≤1;omega,by show(1:Int)<_;omega,by show 0≤_;omega,fun i s q=>by simp[Jn.fresh] at q⟩
 ·rw[hlast,if_neg (by omega)];exact Clean.zsec _
 ·funext i
  show((Dk.new n).fmt ring).now (2+ring+i)=zsec
  rw[hcalm.now,hlast,if_neg (by omega)]
theorem com_spec{w:World}{F:Nat→Prop}{j:JG}{J:Jn}{D:Dk}(h:JnAt w F j J D)(v:Value)(l:List Put)(hp:PutsAt w v l)(hl:l.length≤1000000)(hus:J.used≤5000) :
  Calls Tryz.prog 47 #[.pointer (some ⟨j.jb,0,none⟩),v] w (ComPost w F j J D l):=by
 by_cases hm:J.may D=0
 ·by_cases hf:J.fits D.n l≠0∨l=[]
  ·exact com_bad h v l hp hl hm hf
  ·have hf0:J.fits D.n l=0:=by
    by_cases q:J.fits D.n l=0
    ·exact q
    ·exact absurd (.inl q) hf
   have h0:l≠[]:=fun q=>hf (.inr q)
   by_cases ht:4611686018427387903≤J.turn
   ·exact com_full h v l hp hl hm hf0 h0 ht
   ·exact com_main h v l hp hm hf0 h0 (by omega) hus
 ·exact com_dead h v l hm
end Go.Proofs.YtplppdbdfhkljaaGreat
end
