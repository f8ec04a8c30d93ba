/-
  Numbers in bytes: octet.At, journal.of, journal.lay.
-/
import Derived.Test.YtplppdbdfhkljaaGreatA02
import Derived.Deep.QuietTactic
import Derived.BigQuiet
set_option maxRecDepth 100000
set_option maxHeartbeats 16000000
section
namespace Go.Proofs.YtplppdbdfhkljaaGreat
open Go.RowKit
def be(n v:Nat):List UInt8:=(List.range n).map fun i=>UInt8.ofNat (v / 256 ^ (n-1-i))
def beN(l:List UInt8):Nat:=l.foldl (fun a c=>a*256+c.toNat) 0
def num(b:List UInt8)(a n:Nat):Nat:=beN ((b.drop a).take n)
def numI(b:List UInt8)(a n:Nat):Int:=(num b a n:Int)
def put(b:List UInt8)(a n v:Nat):List UInt8:=b.take a++(be n v++b.drop (a+n))
theorem be_length(n v:Nat):(be n v).length=n:=by simp[be]
theorem put_length{b:List UInt8}{a n v:Nat}(h:a+n≤b.length):(put b a n v).length=b.length:=by
 simp[put,be_length];omega
theorem beN_snoc(l:List UInt8)(c:UInt8):beN (l ++ [c])=beN l*256+c.toNat:=by simp[beN]
theorem beN_lt(l:List UInt8):beN l<256 ^ l.length:=by
 have key:∀(l:List UInt8) (x:Nat),l.foldl (fun a c=>a*256+c.toNat) x<(x+1)*256 ^ l.length:=by
  intro l
  induction l with
  | nil=>intro x;simp
  | cons c l ih=>
   intro x
   rw[List.foldl_cons,List.length_cons,Nat.pow_succ]
   refine Nat.lt_of_lt_of_le (ih _) ?_
   have h1:x*256+c.toNat+1≤(x+1)*256:=by have:=c.toNat_lt;omega
   calc (x*256+c.toNat+1)*256 ^ l.length≤((x+1)*256)*256 ^ l.length:=Nat.mul_le_mul_right _ h1
    _=(x+1)*(256 ^ l.length*256):=by rw[Nat.mul_assoc,Nat.mul_comm 256]
 have:=key l 0
 simpa [beN] using this
theorem u64_wrap_in(n:Int)(h0:0≤n)(h1:n<18446744073709551616):IntKind.u64.wrap n=n:=by
 rw[IntKind.wrap_u64];omega
theorem or_add(x c:Nat)(hc:c<256):x*256 ||| c=x*256+c:=by
 have h2:=Nat.two_pow_add_eq_or_of_lt (i:=8) (b:=c) (by omega) x
 rw[show(2:Nat) ^ 8=256 from rfl,Nat.mul_comm 256 x] at h2
 exact h2.symm
theorem or_byte(x c:Nat)(hx:x*256+255<18446744073709551616)(hc:c<256):bits BinOp.or IntKind.u64 (IntKind.u64.wrap ((x:Int)*256)) (IntKind.u64.wrap (c:Int))=((x*256+c:Nat):Int):=by
 obtain⟨y,hy⟩:∃y,y=x*256:=⟨_,rfl⟩
 have hyi:(x:Int)*256=(y:Int):=by omega
 rw[hyi,u64_wrap_in _ (by omega) (by omega),u64_wrap_in _ (by omega) (by omega)]
 have h1:y<18446744073709551616:=by omega
 have h2:c<18446744073709551616:=by omega
 rw[u64_or_nat y c h1 h2,hy,or_add x c hc]
set_option maxHeartbeats 400000 in
theorem at_spec(v:Value)(b:List UInt8)(a n:Nat)(w:World)(hr:Rd w v b)(h1:1≤n)(h8:n≤8)(hl:a+n≤b.length)(hb:b.length≤1000000) :
  Calls Tryz.prog 135 #[v,.int .i64 (a:Int),.int .i64 (n:Int)] w fun e w'=>e=.returned (.tuple #[.int .u64 (num b a n:Int),.int .i64 0])∧w=w':=by
 obtain⟨ao,cap,rfl,hc,hh⟩:=hr
 obtain⟨bk,off,rfl,hcell⟩:=hh (by omega)
 clear hh
 have hcell':∀i,i<n→w.cell? ⟨bk,off+a+i,none⟩=some (.int .u8 ((b[a+i]?.getD 0).toNat:Int)):=by
  intro i hi
  have:=hcell (a+i) (by omega)
  rw[Nat.add_assoc,this]
  simp[bv,List.getElem?_eq_getElem (show a+i<b.length by omega)]
 have HC:=Lib.hid hcell'
 clear hcell hcell'
 go_enter Tryz.func135,Tryz.ntmps135
 go_wp2
 go_loop [8,36] (fun x i=>∃k:Nat,k≤n∧i=.int .i64 (k:Int)∧x=.int .u64 (beN ((b.drop a).take k):Int)) (fun _ i=>n-(intOf i).toNat)
 case atStart=>exact⟨0,by omega,rfl,rfl⟩
 case round=>
  obtain⟨k,hk,rfl,rfl⟩:=hrel
  by_cases hlt:k<n
  ·have hck:=HC.out k hlt
   have hx:=beN_lt ((b.drop a).take k)
   have hlen:((b.drop a).take k).length=k:=by simp;omega
   rw[hlen] at hx
   have hx7:beN ((b.drop a).take k)<256 ^ 7:=Nat.lt_of_lt_of_le hx (Nat.pow_le_pow_right (by omega) (by omega))
   have hstep:beN ((b.drop a).take (k+1))=beN ((b.drop a).take k)*256+(b[a+k]?.getD 0).toNat:=by
    have hkl:k<(b.drop a).length:=by simp;omega
    rw[List.take_succ_eq_append_getElem hkl,beN_snoc]
    simp[List.getElem?_eq_getElem (show a+k<b.length by omega)]
   have hor:=or_byte (beN ((b.drop a).take k)) (b[a+k]?.getD 0).toNat (by omega) (UInt8.toNat_lt _)
   rw[← hstep] at hor
   have HOR:=Lib.hid hor
   clear hor hstep hx hx7 hlen
   go_wp2
   go_round
   case rel=>exact⟨k+1,by omega,by go_num,congrArg (Value.int IntKind.u64) HOR.out⟩
   case measure=>simp[intOf];omega
  ·obtain rfl:k=n:=by omega
   go_wp2
   go_ret2
   exact⟨rfl,rfl⟩
set_option maxHeartbeats 400000 in
theorem of_spec(v:Value)(b:List UInt8)(a n:Nat)(w:World)(hr:Rd w v b)(h1:1≤n)(h8:n≤8)(hl:a+n≤b.length)(hb:b.length≤1000000) :
  Calls Tryz.prog 129 #[v,.int .i64 (a:Int),.int .i64 (n:Int)] w fun e w'=>e=.returned (.int .u64 (numI b a n))∧w=w':=by
 have H:=Lib.hid (at_spec v b a n w hr h1 h8 hl hb)
 clear hr h1 h8 hl hb
 go_enter Tryz.func129,Tryz.ntmps129
 go_wp2_with (go_at_call 135;refine H.out.mono ?_;rintro e w' ⟨rfl,rfl⟩)
 go_ret
 exact⟨rfl,rfl⟩
def putK(b:List UInt8)(a n v k:Nat):List UInt8:=b.take a++((be n v).take k++b.drop (a+k))
theorem putK_zero(b:List UInt8)(a n v:Nat):putK b a n v 0=b:=by simp[putK]
theorem putK_full(b:List UInt8)(a n v:Nat):putK b a n v n=put b a n v:=by
 have:(be n v).take n=be n v:=List.take_of_length_le (by rw[be_length];omega)
 unfold putK put;rw[this]
theorem putK_length{b:List UInt8}{a n v k:Nat}(hk:k≤n)(h:a+n≤b.length):(putK b a n v k).length=b.length:=by
 simp[putK,be_length];omega
theorem putK_step{b:List UInt8}{a n v k:Nat}(hk:k<n)(h:a+n≤b.length):(putK b a n v k).set (a+k) (UInt8.ofNat (v / 256 ^ (n-1-k)))=putK b a n v (k+1):=by
 unfold putK
 have e1:(b.take a).length=a:=by simp;omega
 have e2:((be n v).take k).length=k:=by simp[be_length];omega
 rw[List.set_append_right _ _ (by omega),e1,Nat.add_sub_cancel_left,List.set_append_right _ _ (by omega),e2,Nat.sub_self]
 have e3:b.drop (a+k)=b[a+k] :: b.drop (a+(k+1)):=List.drop_eq_getElem_cons (by omega)
 have e4:(be n v).take (k+1)=(be n v).take k ++ [UInt8.ofNat (v / 256 ^ (n-1-k))]:=by
  rw[List.take_succ_eq_append_getElem (by simp[be_length];omega)]
  simp[be]
 rw[e3,e4,List.set_cons_zero]
 simp
set_option maxHeartbeats 400000 in
theorem lay_spec'(bk cp a n v:Nat)(l:List UInt8)(rest:List Value)(w:World)(hb:w.heap[bk]?=some (.cells (bts l++rest).toArray 5 (0,0)))(h8:n≤8)(hl:a+n≤l.length)(hll:l.length≤1000000) :
  Calls Tryz.prog 105 #[.slice (some ⟨bk,0,none⟩) l.length cp,.int .i64 (a:Int),.int .u64 (v:Int),.int .i64 (n:Int)] w fun e w'=>e=.returned (.tuple #[])∧w'.heap[bk]?=some (.cells (bts (put l a n v)++rest).toArray 5 (0,0))∧Upd [bk] w w':=by
 have HB:=Lib.hid hb
 clear hb
 go_enter Tryz.func105,Tryz.ntmps105
 go_wp2
 go_loopw [10] (fun i wr=>∃k:Nat,k≤n∧i=.int .i64 (k:Int)∧wr.heap[bk]?=some (.cells (bts (putK l a n v k)++rest).toArray 5 (0,0))∧Upd [bk] w wr) (fun i _=>n-(intOf i).toNat)
 case atStart=>exact⟨0,by omega,rfl,by rw[putK_zero];exact HB.out,Upd.refl _ _⟩
 case round=>
  obtain⟨k,hk,rfl,h1,h3⟩:=hrel
  by_cases hlt:k<n
  ·have hlen:=putK_length (v:=v) hk hl
   obtain⟨old,hcl⟩:∃old,wr.cell? ⟨bk,a+k,none⟩=some old:=by
    rw[blk_cell h1]
    exact⟨_,Array.getElem?_eq_getElem (by simp;omega)⟩
   have hf:=blk_free h1 (a+k)
   have hs:0≤8*((n:Int)-1-k):=by omega
   have hs2:8*((n:Int)-1-k)≤56:=by omega
   have hbyte:Value.int IntKind.u8 ((v:Int) / 2 ^ (8*(n-1-k)) % 256)=bv (UInt8.ofNat (v / 256 ^ (n-1-k))):=by
    unfold bv
    congr 1
    have e1:(2:Int) ^ (8*(n-1-k))=((256 ^ (n-1-k):Nat):Int):=by
     rw[show(256:Nat)=2 ^ 8 from rfl,← Nat.pow_mul,Int.natCast_pow];rfl
    rw[UInt8.toNat_ofNat',e1]
    omega
   have hfin:(wr.setCell ⟨bk,a+k,none⟩ (bv (UInt8.ofNat (v / 256 ^ (n-1-k))))).heap[bk]?=some (.cells (bts (putK l a n v (k+1))++rest).toArray 5 (0,0)):=by
    rw[blk_set h1,← putK_step hlt hl]
    congr 2
    rw[List.setIfInBounds_toArray,List.set_append_left _ _ (by simp;omega)]
    simp[bts,List.map_set]
   rw[← hbyte] at hfin
   have HFIN:=Lib.hid hfin
   have H3:=Lib.hid h3
   clear h1 h3 hfin hbyte hlen
   go_wp2
   go_roundw
   case rel=>exact⟨k+1,by omega,by go_num,HFIN.out,H3.out.set _ (.inl (by simp))⟩
   case measure=>simp[intOf];omega
  ·obtain rfl:k=n:=by omega
   rw[putK_full] at h1
   have H1:=Lib.hid h1
   have H3:=Lib.hid h3
   clear h1 h3
   go_wp2
   go_end0
   exact⟨rfl,H1.out,H3.out⟩
theorem lay_spec(bk len cp a n:Nat)(v:Int)(l:List UInt8)(rest:List Value)(w:World)(hb:w.heap[bk]?=some (.cells (bts l++rest).toArray 5 (0,0)))(hv:0≤v)(hlen:l.length=len)(h8:n≤8)(hl:a+n≤len)(hll:len≤1000000) :
  Calls Tryz.prog 105 #[.slice (some ⟨bk,0,none⟩) len cp,.int .i64 (a:Int),.int .u64 v,.int .i64 (n:Int)] w fun e w'=>e=.returned (.tuple #[])∧w'.heap[bk]?=some (.cells (bts (put l a n v.toNat)++rest).toArray 5 (0,0))∧Upd [bk] w w':=by
 subst hlen
 obtain⟨v,rfl⟩:=Int.eq_ofNat_of_zero_le hv
 exact lay_spec' bk cp a n v l rest w hb h8 hl hll
theorem num_lt(b:List UInt8)(a n:Nat):num b a n<256 ^ n:=by
 refine Nat.lt_of_lt_of_le (beN_lt _) (Nat.pow_le_pow_right (by omega) ?_)
 simp;omega
theorem numI_nonneg(b:List UInt8)(a n:Nat):0≤numI b a n:=by unfold numI;omega
theorem numI_4(b:List UInt8)(a:Nat):numI b a 4<4294967296:=by
 have:=num_lt b a 4
 unfold numI;omega
theorem numI_2(b:List UInt8)(a:Nat):numI b a 2<65536:=by
 have:=num_lt b a 2
 unfold numI;omega
def tagged(t:Int):Sec:=put (put zsec 0 8 t.toNat) 504 8 t.toNat
theorem put_len{b:List UInt8}{L:Nat}(h:b.length=L){a n v:Nat}(h2:a+n≤L):(put b a n v).length=L:=by rw[put_length (by omega)];exact h
@[simp] theorem tagged_length (t : Int) : (tagged t).length = 512 := put_len (put_len zsec_length (by omega)) (by omega)
def tagOf(b:Sec):Int:=if numI b 0 8=numI b 504 8 then numI b 0 8 else 0
theorem tagOf_nonneg(b:Sec):0≤tagOf b:=by
 unfold tagOf;split
 ·exact numI_nonneg _ _ _
 ·omega
structure Anc where
 number:Int
 turn:Int
 place:Nat
 ring:Nat
def Anc.val(a:Anc):Array Value:=#[.int .u64 a.number,.int .u64 a.turn,.int .i64 (a.place:Int),.int .i64 (a.ring:Int)]
def Anc.sector(a:Anc):Sec:=put (put (put (tagged a.number) 8 8 a.turn.toNat) 16 4 a.place) 20 4 a.ring
@[simp] theorem Anc.sector_length (a : Anc) : a.sector.length = 512 := put_len (put_len (put_len (tagged_length _) (by omega)) (by omega)) (by omega)
def ancOf(b:Sec):Anc:=⟨tagOf b,numI b 8 8,num b 16 4,num b 20 4⟩
def Anc.okB(a:Anc)(sectors:Nat):Bool:=a.number != 0 && decide (1≤a.turn) && decide (a.turn<4611686018427387904) && (decide (8≤a.ring) && decide (a.ring≤1024) && decide (a.place<a.ring) && decide (a.ring+10≤sectors))
set_option maxHeartbeats 400000 in
theorem tagged_spec(t:Int)(w:World)(ht:0≤t) :
  Calls Tryz.prog 104 #[.int .u64 t] w fun e w'=>e=.returned (.slice (some ⟨w.heap.size,0,none⟩) 512 512)∧w'.heap[w.heap.size]?=some (.cells (bts (tagged t)).toArray 5 (0,0))∧Upd [] w w':=by
 have hmk:=run_make_512
 go_enter Tryz.func104,Tryz.ntmps104
 go_wp2_with fail
 refine(lay_spec w.heap.size 512 512 0 8 t zsec [] _ (by simpa using blk_alloc _) ht zsec_length (by omega) (by omega) (by omega)).mono ?_
 rintro e w1 ⟨rfl,h1,hu1⟩
 have H1:=Lib.hid h1
 have HU1:=Lib.hid hu1
 clear h1 hu1
 go_wp2_with fail
 refine(lay_spec w.heap.size 512 512 504 8 t (put zsec 0 8 t.toNat) [] _ H1.out ht (put_len zsec_length (by omega)) (by omega) (by omega) (by omega)).mono ?_
 rintro e w2 ⟨rfl,h2,hu2⟩
 have H2:=Lib.hid h2
 have HU2:=Lib.hid hu2
 clear h2 hu2
 go_wp2
 go_ret
 refine⟨rfl,?_,?_⟩
 ·have:=H2.out;rw[List.append_nil] at this;exact this
 ·exact((((Upd.refl [] w).alloc _).late HU1.out (fun i hi=> .inr (by simp at hi;omega))).late HU2.out (fun i hi=> .inr (by simp at hi;omega)))
set_option maxHeartbeats 400000 in
theorem tag_spec(v:Value)(b:Sec)(w:World)(hr:Rd w v b)(hl:b.length=512) :
  Calls Tryz.prog 128 #[v] w fun e w'=>e=.returned (.int .u64 (tagOf b))∧w=w':=by
 have HR:=Lib.hid hr
 have HL:=Lib.hid hl
 clear hr hl
 by_cases hq:numI b 0 8=numI b 504 8
 ·have hb:(numI b 0 8 == numI b 504 8)=true:=by simp[hq]
  have HT:Hid (tagOf b=numI b 0 8):=by show tagOf b=_;unfold tagOf;rw[if_pos hq]
  clear hq
  go_enter Tryz.func128,Tryz.ntmps128
  go_wp2_with fail
  refine(of_spec v b 0 8 w HR.out (by omega) (by omega) (by rw[HL.out];omega) (by rw[HL.out];omega)).mono ?_
  rintro e w' ⟨rfl,rfl⟩
  go_wp2_with fail
  refine(of_spec v b 504 8 w HR.out (by omega) (by omega) (by rw[HL.out];omega) (by rw[HL.out];omega)).mono ?_
  rintro e w' ⟨rfl,rfl⟩
  go_wp2
  go_ret
  exact⟨ret_int (by rw[HT.out]),rfl⟩
 ·have hb:(numI b 0 8 == numI b 504 8)=false:=by rw[beq_eq_false_iff_ne];exact hq
  have HT:Hid (tagOf b=0):=by show tagOf b=_;unfold tagOf;rw[if_neg hq]
  clear hq
  go_enter Tryz.func128,Tryz.ntmps128
  go_wp2_with fail
  refine(of_spec v b 0 8 w HR.out (by omega) (by omega) (by rw[HL.out];omega) (by rw[HL.out];omega)).mono ?_
  rintro e w' ⟨rfl,rfl⟩
  go_wp2_with fail
  refine(of_spec v b 504 8 w HR.out (by omega) (by omega) (by rw[HL.out];omega) (by rw[HL.out];omega)).mono ?_
  rintro e w' ⟨rfl,rfl⟩
  go_wp2
  go_ret
  exact⟨ret_int (by rw[HT.out]),rfl⟩
end Go.Proofs.YtplppdbdfhkljaaGreat
namespace Go.Proofs.YtplppdbdfhkljaaGreat
open Go.RowKit
set_option maxHeartbeats 400000 in
theorem sector_spec(a:Anc)(w:World)(h1:a.place<9223372036854775808)(h2:a.ring<9223372036854775808)(h3:0≤a.number)(h4:0≤a.turn) :
  Calls Tryz.prog 123 #[.agg a.val] w fun e w'=>e=.returned (.slice (some ⟨w.heap.size+1,0,none⟩) 512 512)∧w'.heap[w.heap.size+1]?=some (.cells (bts a.sector).toArray 5 (0,0))∧Upd [] w w':=by
 unfold Anc.val
 have hw1:=u64_wrap_in (a.place:Int) (by omega) (by omega)
 have hw2:=u64_wrap_in (a.ring:Int) (by omega) (by omega)
 go_enter Tryz.func123,Tryz.ntmps123
 go_wp2_with fail
 refine(tagged_spec a.number _ h3).mono ?_
 rintro e w1 ⟨rfl,g1,hu1⟩
 rw[World.size_alloc] at g1
 have c1:w1.heap[w.heap.size]?=some (.cells #[.int .u64 a.number,.int .u64 a.turn,.int .i64 (a.place:Int),.int .i64 (a.ring:Int)] 160 (0,0)):=(hu1.block _ (by simp) (by simp)).trans (blk_alloc _)
 have hc1:=blk_cell c1
 have C1:=Lib.hid c1
 have G1:=Lib.hid g1
 have U1:=Lib.hid (((Upd.refl [] w).alloc _).trans hu1)
 clear c1 g1 hu1
 rw[World.size_alloc]
 go_wp2_with fail
 refine(lay_spec (w.heap.size+1) 512 512 8 8 a.turn _ [] _ (by simpa using G1.out) h4 (tagged_length _) (by omega) (by omega) (by omega)).mono ?_
 rintro e w2 ⟨rfl,g2,hu2⟩
 have c2:w2.heap[w.heap.size]?=_:=(hu2.block _ (blk_lt C1.out) (by simp)).trans C1.out
 have hc2:=blk_cell c2
 have C2:=Lib.hid c2
 have G2:=Lib.hid g2
 have U2:=Lib.hid (U1.out.late hu2 (fun i hi=> .inr (by simp at hi;omega)))
 clear c2 g2 hu2 hc1
 go_wp2_with fail
 refine(lay_spec (w.heap.size+1) 512 512 16 4 a.place _ [] _ G2.out (by omega) (put_len (tagged_length _) (by omega)) (by omega) (by omega) (by omega)).mono ?_
 rintro e w3 ⟨rfl,g3,hu3⟩
 have c3:w3.heap[w.heap.size]?=_:=(hu3.block _ (blk_lt C2.out) (by simp)).trans C2.out
 have hc3:=blk_cell c3
 have G3:=Lib.hid g3
 have U3:=Lib.hid (U2.out.late hu3 (fun i hi=> .inr (by simp at hi;omega)))
 clear c3 g3 hu3 hc2
 go_wp2_with fail
 refine(lay_spec (w.heap.size+1) 512 512 20 4 a.ring _ [] _ G3.out (by omega) (put_len (put_len (tagged_length _) (by omega)) (by omega)) (by omega) (by omega) (by omega)).mono ?_
 rintro e w4 ⟨rfl,g4,hu4⟩
 have G4:=Lib.hid g4
 have U4:=Lib.hid (U3.out.late hu4 (fun i hi=> .inr (by simp at hi;omega)))
 clear g4 hu4 hc3
 go_wp2
 go_ret
 refine⟨rfl,?_,U4.out⟩
 have:=G4.out
 rw[List.append_nil] at this;exact this
theorem okB_eq(g t:Int)(p r sectors:Nat)(f:Bool)(hf:f=(g != 0 && decide (1≤t) && decide (t<4611686018427387904) && (decide ((8:Int)≤(r:Int)) && decide ((r:Int)≤1024) && decide ((p:Int)<(r:Int)) && decide ((8:Int)≤(sectors:Int)-2-(r:Int))))):f=Anc.okB ⟨g,t,p,r⟩ sectors:=by
 subst hf
 unfold Anc.okB
 rw[Bool.eq_iff_iff]
 simp only[Bool.and_eq_true,decide_eq_true_eq,bne_iff_ne]
 omega
set_option maxHeartbeats 1000000 in
set_option maxRecDepth 100000 in
theorem readA_spec(v:Value)(b:Sec)(sectors:Nat)(w:World)(hr:Rd w v b)(hl:b.length=512)(hs:sectors≤4096) :
  Calls Tryz.prog 84 #[v,.int .i64 (sectors:Int)] w fun e w'=>e=.returned (.tuple #[.agg (ancOf b).val,.bool ((ancOf b).okB sectors)])∧Upd [] w w':=by
 have HR:=Lib.hid hr
 have HL:=Lib.hid hl
 clear hr hl
 have n0:=numI_nonneg b 8 8
 have n1:=numI_nonneg b 16 4
 have n2:=numI_nonneg b 20 4
 have n3:=numI_4 b 16
 have n4:=numI_4 b 20
 have nt:=tagOf_nonneg b
 have c1:=fun W=>tag_spec v b W
 have c2:=fun W (hW:Rd W v b)=>of_spec v b 8 8 W hW (by omega) (by omega) (by rw[HL.out];omega) (by rw[HL.out];omega)
 have c3:=fun W (hW:Rd W v b)=>of_spec v b 16 4 W hW (by omega) (by omega) (by rw[HL.out];omega) (by rw[HL.out];omega)
 have c4:=fun W (hW:Rd W v b)=>of_spec v b 20 4 W hW (by omega) (by omega) (by rw[HL.out];omega) (by rw[HL.out];omega)
 have hres:∀(g t p r:Int),g=tagOf b→t=numI b 8 8→p=numI b 16 4→r=numI b 20 4→∀f:Bool,f=(g != 0 && decide (1≤t) && decide (t<4611686018427387904) && (decide (8≤r) && decide (r≤1024) && decide (p<r) && decide (8≤(sectors:Int)-2-r)))→
   Value.tuple #[.agg #[.int .u64 g,.int .u64 t,.int .i64 p,.int .i64 r],.bool f]=.tuple #[.agg (ancOf b).val,.bool ((ancOf b).okB sectors)]:=by
  intro g t p r e1 e2 e3 e4 f ef
  subst e1 e2 e3 e4 ef
  exact congrArg (fun x=>Value.tuple #[.agg (ancOf b).val,.bool x]) (okB_eq (tagOf b) (numI b 8 8) (num b 16 4) (num b 20 4) sectors _ rfl)
 generalize tagOf b=g at *
 generalize numI b 8 8=t at *
 generalize numI b 16 4=p at *
 generalize numI b 20 4=r at *
 have HC1:=Lib.hid c1
 have HC2:=Lib.hid c2
 have HC3:=Lib.hid c3
 have HC4:=Lib.hid c4
 have HRES:=Lib.hid hres
 clear c1 c2 c3 c4 hres
 go_enter Tryz.func84,Tryz.ntmps84
 go_wp2_with fail
 refine(HC1.out _ (HR.out.alloc _) HL.out).mono ?_
 rintro e w' ⟨rfl,rfl⟩
 go_wp2_with fail
 refine(HC2.out _ (HR.out.alloc _)).mono ?_
 rintro e w' ⟨rfl,rfl⟩
 go_wp2_with fail
 refine(HC3.out _ (HR.out.alloc _)).mono ?_
 rintro e w' ⟨rfl,rfl⟩
 go_wp2_with fail
 refine(HC4.out _ (HR.out.alloc _)).mono ?_
 rintro e w' ⟨rfl,rfl⟩
 go_wp2
 all_goals
  refine bodyPost_ret (v:=.tuple #[.agg #[.int .u64 g,.int .u64 t,.int .i64 p,.int .i64 r],.bool (g != 0 && decide (1≤t) && decide (t<4611686018427387904) && (decide (8≤r) && decide (r≤1024) && decide (p<r) && decide (8≤(sectors:Int)-2-r)))]) ?_ rfl ⟨congrArg Ending.returned (HRES.out g t p r rfl rfl rfl rfl _ rfl),?_⟩
  ·simp[results,Tryz.results84,go_sem, *]
   try (intros;omega)
  ·exact((((Upd.refl [] w).alloc _).alloc _))
end Go.Proofs.YtplppdbdfhkljaaGreat
namespace Go.Proofs.YtplppdbdfhkljaaGreat
open Go.RowKit
structure JG where
 jb:Nat
 ab:Nat
 d:DG
 F:Nat→Prop
def AnyF:Nat→Prop:=fun _=>True
structure Jn where
 lives:Int
 done:Bool
 last:Anc
 turn:Int
 place:Nat
 used:Nat
 away:Nat→Option Sec
structure Jn.Ok(J:Jn)(n:Nat):Prop where
 ring0:8≤J.last.ring
 ring1:J.last.ring≤1024
 fits:J.last.ring+10≤n
 lplace:J.last.place<J.last.ring
 place:J.place<J.last.ring
 num0:1≤J.last.number
 num1:J.last.number<18446744073709551616
 lturn0:1≤J.last.turn
 turn0:1≤J.turn
 turn1:J.turn<4611686018427389000
 used:J.used≤100000000
 away:∀i s,J.away i=some s→i+2+J.last.ring<n∧s.length=512
def Jn.homes(J:Jn)(n:Nat):Nat:=n-2-J.last.ring
structure JnAt(w:World)(F:Nat→Prop)(j:JG)(J:Jn)(D:Dk):Prop where
 disk:DiskAt w F j.d D
 st:w.heap[j.jb]?=some (.cells #[.pointer (some ⟨j.d.db,0,none⟩),.int .i64 J.lives,.bool J.done,.int .u64 J.last.number,.int .u64 J.last.turn,.int .i64 (J.last.place:Int),.int .i64 (J.last.ring:Int),.int .u64 J.turn,.int .i64 (J.place:Int),.int .i64 (J.used:Int),.map (some j.ab)] 162 (0,0))
 away:WaitM w F j.ab J.away
 ne:j.ab≠j.d.mb
 ok:J.Ok D.n
structure Qt(w w':World):Prop where
 heap:w'.heap=w.heap
 upd:Upd [] w w'
theorem Qt.of_drewN{w w':World}{n:Nat}(h:w'=w.drewN n):Qt w w':=by subst h;exact⟨rfl,(Upd.refl _ _).drewN n⟩
theorem Qt.trans{a b c:World}(h:Qt a b)(k:Qt b c):Qt a c:=⟨k.heap.trans h.heap,h.upd.trans k.upd⟩
theorem JnAt.world{w w':World}{F:Nat→Prop}{j:JG}{J:Jn}{D:Dk}(h:JnAt w F j J D)(h0:w'.heap[j.jb]?=w.heap[j.jb]?)(h1:w'.heap[j.ab]?=w.heap[j.ab]?)(h2:w'.heap[j.d.db]?=w.heap[j.d.db]?)(h3:w'.heap[j.d.lb]?=w.heap[j.d.lb]?)(h4:w'.heap[j.d.mb]?=w.heap[j.d.mb]?)
  (ha:∀k c,F k→w.heap[k]?=some (.cells c 5 (0,0))→w'.heap[k]?=w.heap[k]?):JnAt w' F j J D:=
 ⟨h.disk.world h2 h3 h4 ha,h0.trans h.st,h.away.world h1 ha,h.ne,h.ok⟩
theorem JnAt.qt{w w':World}{F:Nat→Prop}{j:JG}{J:Jn}{D:Dk}(h:JnAt w F j J D)(hq:Qt w w'):JnAt w' F j J D:=
 h.world (by rw[hq.heap]) (by rw[hq.heap]) (by rw[hq.heap]) (by rw[hq.heap]) (by rw[hq.heap]) (fun _ _ _ _=>by rw[hq.heap])
theorem JnAt.mono{w:World}{F G:Nat→Prop}{j:JG}{J:Jn}{D:Dk}(h:JnAt w F j J D)(hFG:∀k,F k→G k):JnAt w G j J D:=
 ⟨h.disk.mono hFG,h.st,h.away.mono hFG,h.ne,h.ok⟩
theorem JnAt.lt{w:World}{F:Nat→Prop}{j:JG}{J:Jn}{D:Dk}(h:JnAt w F j J D):j.jb<w.heap.size∧j.ab<w.heap.size:=by
 obtain⟨f,hf,_⟩:=h.away
 exact⟨blk_lt h.st,hf.lt⟩
theorem JnAt.below{w w':World}{F:Nat→Prop}{j:JG}{J:Jn}{D:Dk}(h:JnAt w F j J D)(hu:Upd [] w w'):JnAt w' F j J D:=
 h.world (hu.block _ h.lt.1 (by simp)) (hu.block _ h.lt.2 (by simp)) (hu.block _ h.disk.lt.1 (by simp)) (hu.block _ h.disk.lt.2.1 (by simp)) (hu.block _ h.disk.lt.2.2 (by simp)) (fun _ _ _ hk=>hu.block _ (blk_lt hk) (by simp))
theorem DiskAt.drewN{w:World}{F:Nat→Prop}{g:DG}{D:Dk}(h:DiskAt w F g D)(n:Nat):DiskAt (w.drewN n) F g D:=
 h.world rfl rfl rfl (fun _ _ _ _=>rfl)
theorem JnAt.drewN{w:World}{F:Nat→Prop}{j:JG}{J:Jn}{D:Dk}(h:JnAt w F j J D)(n:Nat):JnAt (w.drewN n) F j J D:=
 h.world rfl rfl rfl rfl rfl (fun _ _ _ _=>rfl)
set_option maxHeartbeats 400000 in
theorem homes_spec{w:World}{F:Nat→Prop}{j:JG}{J:Jn}{D:Dk}(h:JnAt w F j J D) :
  Calls Tryz.prog 108 #[.pointer (some ⟨j.jb,0,none⟩)] w fun e w'=>e=.returned (.int .i64 (J.homes D.n:Int))∧∃n,w'=w.drewN n:=by
 have H:=Lib.hid h
 have hc:=blk_cell h.st
 have hn:=h.disk.ok.n0
 have hn1:=h.disk.ok.n1
 have hr0:=h.ok.ring0
 have hr1:=h.ok.ring1
 have hfit:=h.ok.fits
 have HE:Hid ((J.homes D.n:Int)=(D.n:Int)-2-(J.last.ring:Int)):=by show _=_;unfold Jn.homes;omega
 clear h
 go_enter Tryz.func108,Tryz.ntmps108
 go_wp2
 go_quiet ((go_at_call 78;exact Calls.quiet_of_same ((len_spec (H.out.disk.drewN _)).mono fun _ _ ⟨a,b⟩=>⟨a,b.symm⟩)))
 go_wp2
 go_ret
 exact⟨ret_int HE.out.symm,_,rfl⟩
set_option maxHeartbeats 400000 in
theorem turn_spec{w:World}{F:Nat→Prop}{j:JG}{J:Jn}{D:Dk}(h:JnAt w F j J D) :
  Calls Tryz.prog 44 #[.pointer (some ⟨j.jb,0,none⟩)] w fun e w'=>e=.returned (.int .u64 (J.turn-1))∧w=w':=by
 have hc:=blk_cell h.st
 have h0:=h.ok.turn0
 have h1:=h.ok.turn1
 have hw:=u64_wrap_in (J.turn-1) (by omega) (by omega)
 have HW:=Lib.hid hw
 clear h hw h1
 go_enter Tryz.func44,Tryz.ntmps44
 go_wp2
 go_ret
 exact⟨ret_int HW.out,rfl⟩
set_option maxHeartbeats 400000 in
theorem free_spec{w:World}{F:Nat→Prop}{j:JG}{J:Jn}{D:Dk}(h:JnAt w F j J D) :
  Calls Tryz.prog 100 #[.pointer (some ⟨j.jb,0,none⟩)] w fun e w'=>e=.returned (.int .i64 ((J.last.ring:Int)-(J.used:Int)))∧∃n,w'=w.drewN n:=by
 have hc:=blk_cell h.st
 have hr1:=h.ok.ring1
 have hu:=h.ok.used
 clear h
 go_enter Tryz.func100,Tryz.ntmps100
 go_wp2
 go_quiet (fail)
 go_wp2
 go_ret
 exact⟨rfl,_,rfl⟩
def Jn.at(J:Jn)(place:Nat):Nat:=2+place % J.last.ring
set_option maxHeartbeats 400000 in
theorem atP_spec{w:World}{F:Nat→Prop}{j:JG}{J:Jn}{D:Dk}(h:JnAt w F j J D)(p:Nat)(hp:p≤100000) :
  Calls Tryz.prog 103 #[.pointer (some ⟨j.jb,0,none⟩),.int .i64 (p:Int)] w fun e w'=>e=.returned (.int .i64 (J.at p:Int))∧w=w':=by
 have hc:=blk_cell h.st
 have hr0:=h.ok.ring0
 have hr1:=h.ok.ring1
 have hm:p % J.last.ring<J.last.ring:=Nat.mod_lt _ (by omega)
 have HE:Hid ((J.at p:Int)=2+(p:Int) % (J.last.ring:Int)):=by show _=_;unfold Jn.at;omega
 clear h
 go_enter Tryz.func103,Tryz.ntmps103
 go_wp2
 go_ret
 exact⟨ret_int (by rw[HE.out]),rfl⟩
def Jn.may(J:Jn)(D:Dk):Int:=if J.done=true∨D.lives≠J.lives then 8 else 0
set_option maxHeartbeats 1000000 in
theorem mayJ_spec{w:World}{F:Nat→Prop}{j:JG}{J:Jn}{D:Dk}(h:JnAt w F j J D) :
  Calls Tryz.prog 98 #[.pointer (some ⟨j.jb,0,none⟩)] w fun e w'=>e=.returned (.int .i64 (J.may D))∧∃n,w'=w.drewN n:=by
 have H:=Lib.hid h
 have hc:=blk_cell h.st
 clear h
 cases hd:J.done with
 | true=>
  rw[hd] at hc
  have HE:Hid (J.may D=8):=by show _=_;unfold Jn.may;rw[if_pos (.inl hd)]
  clear hd
  go_enter Tryz.func98,Tryz.ntmps98
  go_wp2
  go_quiet (fail)
  go_wp2
  go_ret
  exact⟨ret_int HE.out.symm,_,rfl⟩
 | false=>
  rw[hd] at hc
  by_cases hl:D.lives=J.lives
  ·have hb:(D.lives != J.lives)=false:=by simp[hl]
   have HE:Hid (J.may D=0):=by show _=_;unfold Jn.may;rw[if_neg (by simp[hd,hl])]
   clear hd hl
   go_enter Tryz.func98,Tryz.ntmps98
   go_wp2
   go_quiet ((go_at_call 82;exact Calls.quiet_of_same ((lives_spec (H.out.disk.drewN _)).mono fun _ _ ⟨a,b⟩=>⟨a,b.symm⟩)))
   go_wp2
   go_ret
   exact⟨ret_int HE.out.symm,_,rfl⟩
  ·have hb:(D.lives != J.lives)=true:=by simpa using hl
   have HE:Hid (J.may D=8):=by show _=_;unfold Jn.may;rw[if_pos (.inr hl)]
   clear hd hl
   go_enter Tryz.func98,Tryz.ntmps98
   go_wp2
   go_quiet ((go_at_call 82;exact Calls.quiet_of_same ((lives_spec (H.out.disk.drewN _)).mono fun _ _ ⟨a,b⟩=>⟨a,b.symm⟩)))
   go_wp2
   go_ret
   exact⟨ret_int HE.out.symm,_,rfl⟩
end Go.Proofs.YtplppdbdfhkljaaGreat
namespace Go.Proofs.YtplppdbdfhkljaaGreat
open Go.RowKit
theorem Dk.write_n(D:Dk)(i:Int)(b:List UInt8):(D.write i b).1.n=D.n:=by
 unfold Dk.write;repeat' split
 all_goals first | rfl | exact Dk.step_n D
theorem Dk.flush_n(D:Dk):D.flush.1.n=D.n:=by
 unfold Dk.flush;repeat' split
 all_goals first | rfl | exact Dk.step_n D
theorem write_spec{w:World}{F:Nat→Prop}{g:DG}{D:Dk}(h:DiskAt w F g D)(i:Int)(v:Value)(b:List UInt8)(hr:Rd w v b) :
  Calls Tryz.prog 122 #[.pointer (some ⟨g.db,0,none⟩),.int .i64 i,v] w fun e w'=>e=.returned (.int .i64 (D.write i b).2)∧DiskAt w' (Gr F w.heap.size) g (D.write i b).1∧Upd [g.db,g.mb] w w':=by
 by_cases hm:D.may i=0
 ·obtain⟨hoff,h0,h1⟩:=Dk.may_zero hm
  obtain⟨k,rfl⟩:=Int.eq_ofNat_of_zero_le h0
  by_cases hb:b.length=512
  ·by_cases ha:D.armed=0
   ·have e:D.write (k:Int) b=({ D with off:=true,way:=some k,front:=b.take D.part },8):=by
     unfold Dk.write;rw[if_neg (by simpa using hm),if_neg (by simpa using hb),if_pos ha];simp
    rw[e]
    exact(write_fail h k v b hr hoff (by omega) hb ha).mono fun _ _ ⟨a,b,c⟩=>⟨a,b,c.mono (by simp)⟩
   ·have e:D.write (k:Int) b=({ D.step with wait:=fun j=>if j=k then some b else D.wait j,writes:=wrap64 (D.writes+1) },0):=by
     unfold Dk.write;rw[if_neg (by simpa using hm),if_neg (by simpa using hb),if_neg ha];simp
    rw[e]
    exact write_ok h k v b hr hoff (by omega) hb ha
  ·have e:D.write (k:Int) b=(D,9):=by
    unfold Dk.write;rw[if_neg (by simpa using hm),if_pos (by simpa using hb)]
   rw[e]
   obtain⟨ao,cap,rfl,_⟩:=hr
   exact(write_size h k ao b.length cap hm hb).mono fun _ _ ⟨a,b⟩=>⟨a,by rw[← b];exact h.mono Gr.old,by rw[← b];exact Upd.refl _ _⟩
 ·have e:D.write i b=(D,D.may i):=by unfold Dk.write;rw[if_pos hm]
  rw[e]
  exact(write_err h i v hm).mono fun _ _ ⟨a,b⟩=>⟨a,by rw[← b];exact h.mono Gr.old,by rw[← b];exact Upd.refl _ _⟩
theorem flush_spec{w:World}{F:Nat→Prop}{g:DG}{D:Dk}(h:DiskAt w F g D) :
  Calls Tryz.prog 121 #[.pointer (some ⟨g.db,0,none⟩)] w fun e w'=>e=.returned (.int .i64 D.flush.2)∧DiskAt w' F g D.flush.1∧Upd [g.db,g.lb,g.mb] w w':=by
 cases hoff:D.off with
 | true=>
  have e:D.flush=(D,8):=by unfold Dk.flush;rw[hoff];simp
  rw[e]
  exact(flush_err h hoff).mono fun _ _ ⟨a,b⟩=>⟨a,by rw[← b];exact h,by rw[← b];exact Upd.refl _ _⟩
 | false=>
  by_cases ha:D.armed=0
  ·have e:D.flush=({ D with off:=true },8):=by unfold Dk.flush;rw[hoff];simp[ha]
   rw[e]
   exact(flush_fail h hoff ha).mono fun _ _ ⟨a,b,c⟩=>⟨a,b,c.mono (by simp)⟩
  ·have e:D.flush=({ D.step with last:=D.now,wait:=fun _=>none },0):=by unfold Dk.flush;rw[hoff];simp[ha]
   rw[e]
   exact flush_ok h hoff ha
theorem JnAt.step{w w':World}{F G:Nat→Prop}{j:JG}{J:Jn}{D D':Dk}(h:JnAt w F j J D)(hD:DiskAt w' G j.d D')(hu:Upd [j.d.db,j.d.lb,j.d.mb] w w')(hFG:∀k,F k→G k)(hn:D'.n=D.n):JnAt w' G j J D':=by
 have hjb:j.jb∉[j.d.db,j.d.lb,j.d.mb]:=by
  obtain⟨⟨fv,a1,_⟩,⟨lv,b1,_⟩,⟨f,hf,_⟩,_⟩:=h.disk
  simp only[List.mem_cons,List.not_mem_nil,or_false,not_or]
  refine⟨?_,?_,hf.not_cells h.st⟩
  ·intro e;have:=h.st;rw[e,a1] at this;simp at this
  ·intro e;have:=h.st;rw[e,b1] at this;simp at this
 have hab:j.ab∉[j.d.db,j.d.lb,j.d.mb]:=by
  obtain⟨⟨fv,a1,_⟩,⟨lv,b1,_⟩,_,_⟩:=h.disk
  obtain⟨f,hf,_⟩:=h.away
  simp only[List.mem_cons,List.not_mem_nil,or_false,not_or]
  exact⟨Ne.symm (hf.not_cells a1),Ne.symm (hf.not_cells b1),h.ne⟩
 refine⟨hD,(hu.block _ h.lt.1 hjb).trans h.st,(h.away.world (hu.block _ h.lt.2 hab) (fun k c _ hk=>hu.block _ (blk_lt hk) (h.disk.byte hk))).mono hFG,h.ne,?_⟩
 rw[hn];exact h.ok
theorem JnAt.re{w w':World}{F:Nat→Prop}{j:JG}{J J':Jn}{D:Dk}(h:JnAt w F j J D)
  (hst:w'.heap[j.jb]?=some (.cells #[.pointer (some ⟨j.d.db,0,none⟩),.int .i64 J'.lives,.bool J'.done,.int .u64 J'.last.number,.int .u64 J'.last.turn,.int .i64 (J'.last.place:Int),.int .i64 (J'.last.ring:Int),.int .u64 J'.turn,.int .i64 (J'.place:Int),.int .i64 (J'.used:Int),.map (some j.ab)] 162 (0,0)))
  (ho:∀k,k<w.heap.size→k≠j.jb→w'.heap[k]?=w.heap[k]?) (haw:J'.away=J.away) (hok:J'.Ok D.n):JnAt w' F j J' D:=by
 have ha:∀k c,F k→w.heap[k]?=some (.cells c 5 (0,0))→w'.heap[k]?=w.heap[k]?:=fun k c _ hk=>ho k (blk_lt hk) (by rintro rfl;rw[h.st] at hk;simp at hk)
 have hlt:=h.disk.lt
 have hd:∀k,k∈[j.d.db,j.d.lb,j.d.mb]→k≠j.jb:=by
  obtain⟨⟨fv,a1,_⟩,⟨lv,b1,_⟩,⟨f,hf,_⟩,_⟩:=h.disk
  intro k hk e
  simp only[List.mem_cons,List.not_mem_nil,or_false] at hk
  have hst':=h.st
  rcases hk with rfl | rfl | rfl
  ·rw[← e,a1] at hst';simp at hst'
  ·rw[← e,b1] at hst';simp at hst'
  ·exact hf.not_cells hst' e.symm
 obtain⟨f,hf,_⟩:=id h.away
 refine⟨h.disk.world (ho _ hlt.1 (hd _ (by simp))) (ho _ hlt.2.1 (hd _ (by simp))) (ho _ hlt.2.2 (hd _ (by simp))) ha,hst,?_,h.ne,hok⟩
 rw[haw]
 exact h.away.world (ho _ hf.lt (Ne.symm (hf.not_cells h.st))) ha
theorem JnAt.done{w:World}{F:Nat→Prop}{j:JG}{J:Jn}{D:Dk}(h:JnAt w F j J D)(b:Bool):JnAt (w.setCell ⟨j.jb,2,none⟩ (.bool b)) F j { J with done:=b } D:=by
 refine h.re ?_ (fun k _ hk=>blk_set_ne _ _ hk) rfl ?_
 ·rw[blk_set h.st];simp
 ·have ok:=h.ok
  exact⟨ok.ring0,ok.ring1,ok.fits,ok.lplace,ok.place,ok.num0,ok.num1,ok.lturn0,ok.turn0,ok.turn1,ok.used,ok.away⟩
def Jn.hear(J:Jn)(e:Int):Jn:={ J with done:=J.done || (e != 0) }
set_option maxHeartbeats 400000 in
theorem writeJ_spec{w:World}{F:Nat→Prop}{j:JG}{J:Jn}{D:Dk}(h:JnAt w F j J D)(i:Int)(v:Value)(b:List UInt8)(hr:Rd w v b) :
  Calls Tryz.prog 102 #[.pointer (some ⟨j.jb,0,none⟩),.int .i64 i,v] w fun e w'=>e=.returned (.int .i64 (D.write i b).2)∧JnAt w' (Gr F w.heap.size) j (J.hear (D.write i b).2) (D.write i b).1∧Upd [j.jb,j.d.db,j.d.mb] w w':=by
 have H:=Lib.hid h
 have HR:=Lib.hid hr
 have hc:=blk_cell h.st
 have HN:=Lib.hid (Dk.write_n D i b)
 have HW:=Lib.hid (write_spec h.disk i v b hr)
 clear h hr
 generalize D.write i b=R at *
 obtain⟨D',e'⟩:=R
 simp only at HW HN ⊢
 go_enter Tryz.func102,Tryz.ntmps102
 go_wp2_with fail
 refine HW.out.mono ?_
 rintro e w1 ⟨rfl,hD1,hu1⟩
 have hJ1:=H.out.step hD1 (hu1.mono (by simp)) Gr.old HN.out
 have hc1:=blk_cell hJ1.st
 have hf1:=blk_free hJ1.st
 have HJ1:=Lib.hid hJ1
 have HU1:=Lib.hid hu1
 clear hD1 hu1 hJ1 hc
 cases hd:J.done with
 | true=>
  rw[hd] at hc1
  have HD:=Lib.hid hd
  clear hd
  go_wp2
  go_ret
  refine⟨rfl,?_,(HU1.out.mono (by simp)).set _ (.inl (by simp))⟩
  have e1:J.hear e' = { J with done:=true }:=by unfold Jn.hear;rw[HD.out];rfl
  rw[e1];exact HJ1.out.done true
 | false=>
  rw[hd] at hc1
  have HD:=Lib.hid hd
  clear hd
  go_wp2
  go_ret
  refine⟨rfl,?_,(HU1.out.mono (by simp)).set _ (.inl (by simp))⟩
  have e1:J.hear e' = { J with done:=(e' != 0) }:=by unfold Jn.hear;rw[HD.out];rfl
  rw[e1];exact HJ1.out.done _
set_option maxHeartbeats 400000 in
theorem flushJ_spec{w:World}{F:Nat→Prop}{j:JG}{J:Jn}{D:Dk}(h:JnAt w F j J D) :
  Calls Tryz.prog 107 #[.pointer (some ⟨j.jb,0,none⟩)] w fun e w'=>e=.returned (.int .i64 D.flush.2)∧JnAt w' F j (J.hear D.flush.2) D.flush.1∧Upd [j.jb,j.d.db,j.d.lb,j.d.mb] w w':=by
 have H:=Lib.hid h
 have hc:=blk_cell h.st
 have HN:=Lib.hid (Dk.flush_n D)
 have HW:=Lib.hid (flush_spec h.disk)
 clear h
 generalize D.flush=R at *
 obtain⟨D',e'⟩:=R
 simp only at HW HN ⊢
 go_enter Tryz.func107,Tryz.ntmps107
 go_wp2_with fail
 refine HW.out.mono ?_
 rintro e w1 ⟨rfl,hD1,hu1⟩
 have hJ1:=H.out.step hD1 hu1 (fun _ h=>h) HN.out
 have hc1:=blk_cell hJ1.st
 have hf1:=blk_free hJ1.st
 have HJ1:=Lib.hid hJ1
 have HU1:=Lib.hid hu1
 clear hD1 hu1 hJ1 hc
 cases hd:J.done with
 | true=>
  rw[hd] at hc1
  have HD:=Lib.hid hd
  clear hd
  go_wp2
  go_ret
  refine⟨rfl,?_,(HU1.out.mono (by simp)).set _ (.inl (by simp))⟩
  have e1:J.hear e' = { J with done:=true }:=by unfold Jn.hear;rw[HD.out];rfl
  rw[e1];exact HJ1.out.done true
 | false=>
  rw[hd] at hc1
  have HD:=Lib.hid hd
  clear hd
  go_wp2
  go_ret
  refine⟨rfl,?_,(HU1.out.mono (by simp)).set _ (.inl (by simp))⟩
  have e1:J.hear e' = { J with done:=(e' != 0) }:=by unfold Jn.hear;rw[HD.out];rfl
  rw[e1];exact HJ1.out.done _
end Go.Proofs.YtplppdbdfhkljaaGreat
end
